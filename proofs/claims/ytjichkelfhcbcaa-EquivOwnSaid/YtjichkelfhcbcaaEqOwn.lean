/- equiv: plain laws: gates are the same as they are, with two literals changed round, with a gate more that nothing uses; with an out turned round they are not. No program in sight. -/
import Derived.Test.YtjichkelfhcbcaaAbsU
import Derived.Test.YtjichkelfhcbcaaEqvEqvG
set_option linter.unusedSimpArgs false
set_option linter.unusedVariables false
namespace Go.Proofs.Ytjichkelfhcbcaa
open Abs Fil Fil.Eqv
open Bd (D encB encF)
abbrev xAnd : Aig := ⟨2, [], [(2, 4)], [6]⟩
abbrev xAgain : Aig := ⟨2, [], [(4, 2)], [6]⟩
abbrev xOr : Aig := ⟨2, [], [(3, 5)], [7]⟩
abbrev xNone : Aig := ⟨2, [], [], []⟩
theorem x_wf1 : Wf xAnd := ⟨by simp [I64], by simp, by simp, by simp, by simp, by simp [I64], by simp [I64]⟩
theorem x_wf2 : Wf xAgain := ⟨by simp [I64], by simp, by simp, by simp, by simp, by simp [I64], by simp [I64]⟩
theorem x_wf3 : Wf xOr := ⟨by simp [I64], by simp, by simp, by simp, by simp, by simp [I64], by simp [I64]⟩
theorem x_wf4 : Wf xNone := ⟨by simp [I64], by simp, by simp, by simp, by simp, by simp, by simp⟩
theorem x_ok1 : Ok xAnd := ⟨x_wf1, by decide, by simp, by simp, by simp⟩
theorem x_ok2 : Ok xAgain := ⟨x_wf2, by decide, by simp, by simp, by simp⟩
theorem x_ok3 : Ok xOr := ⟨x_wf3, by decide, by simp, by simp, by simp⟩
theorem x_two12 : Two xAnd xAgain := ⟨x_ok1, x_ok2, rfl, rfl, rfl, by simp⟩
theorem x_two13 : Two xAnd xOr := ⟨x_ok1, x_ok3, rfl, rfl, rfl, by simp⟩
theorem x1 : sameS xAnd xAgain = (true, [], []) := by decide
set_option maxRecDepth 100000 in
theorem x2 : sameS xAnd xOr = (false, [false, true], []) := by decide
theorem x3 : forksS xAnd = ((2, [(-1, 0, 0), (-1, 0, 0), (0, 0, 1), (1, 0, 1), (0, 0, 3)]), [4]) := by decide
theorem x4 : miterM xAnd xAgain = ⟨2, [], [(2, 4)], [0]⟩ := by decide
theorem x5 : traceS xAnd xOr [[true, true], [true, false]] = (1, 0) := by decide
theorem x6 : traceS xAnd xAgain [[true, true], [true, false]] = (-1, 0) := by decide
theorem x7 : traceS xAnd xOr [[true]] = (0, 1) := by decide
set_option maxRecDepth 20000 in
set_option maxHeartbeats 8000000 in
theorem law_live (σ : Sig) : ACalls Try.prog 11 [] σ (fun r σ' => r = .ret (.bool true) ∧ σ' = σ) := by
  refine calls_x mixed Try.func11 b11 n11 rfl q11 (by simp) ?_; unfold c11 r11
  have c1 := fun τ => eq_Same xAnd xAgain x_two12 τ
  have c2 := fun τ => eq_Same xAnd xOr x_two13 τ
  have c3 := fun τ => eq_Forks xAnd x_ok1 τ
  have c4 := fun τ => eq_Miter xAnd xAgain x_two12 τ
  have c5 := fun τ => eq_Trace xAnd xOr [[true, true], [true, false]] τ x_wf1 x_wf3 (by simp) (by decide) rfl rfl (fun _ => by decide) (by decide) (by decide)
  have c6 := fun τ => eq_Trace xAnd xAgain [[true, true], [true, false]] τ x_wf1 x_wf2 (by simp) (by decide) rfl rfl (fun _ => by decide) (by decide) (by decide)
  have c7 := fun τ => eq_Trace xAnd xOr [[true]] τ x_wf1 x_wf3 (by simp) (by decide) rfl rfl (fun h => by revert h; decide) (by decide) (by decide)
  have c8 := fun τ => eq_Same_arg xAnd xNone x_wf1 x_wf4 (by decide) (by simp) τ
  rw [x1] at c1
  rw [x2] at c2
  rw [x3] at c3
  rw [x4] at c4
  rw [x5] at c5
  rw [x6] at c6
  rw [x7] at c7
  repeat' (first | simp (maxDischargeDepth := 9) -implicitDefEqProofs -dsimp only [go_sem, seval, List.map_cons, List.map_nil, *] | ((with_reducible refine Zt (fun oF hoF hnF hnF' => ?_)); clear hnF hnF'; (try simp only [Zw, ne_eq] at hoF)) | ((with_reducible apply ACalls.one1); (focus (first | ((first | with_reducible refine c1 _ | with_reducible refine c2 _ | with_reducible refine c3 _ | with_reducible refine c4 _ | with_reducible refine c5 _ | with_reducible refine c6 _ | with_reducible refine c7 _ | with_reducible refine c8 _) <;> (first | (simp (maxDischargeDepth := 9) -implicitDefEqProofs -dsimp only [go_sem, seval, *]; done) | omega)) | (with_reducible refine ACalls.flA (c1 _) ?_ <;> (first | (simp (maxDischargeDepth := 9) -implicitDefEqProofs -dsimp only [go_sem, seval, *]; done) | omega)) | (with_reducible refine ACalls.flA (c2 _) ?_ <;> (first | (simp (maxDischargeDepth := 9) -implicitDefEqProofs -dsimp only [go_sem, seval, *]; done) | omega)) | (with_reducible refine ACalls.flA (c3 _) ?_ <;> (first | (simp (maxDischargeDepth := 9) -implicitDefEqProofs -dsimp only [go_sem, seval, *]; done) | omega)) | (with_reducible refine ACalls.flA (c4 _) ?_ <;> (first | (simp (maxDischargeDepth := 9) -implicitDefEqProofs -dsimp only [go_sem, seval, *]; done) | omega)) | (with_reducible refine ACalls.flA (c5 _) ?_ <;> (first | (simp (maxDischargeDepth := 9) -implicitDefEqProofs -dsimp only [go_sem, seval, *]; done) | omega)) | (with_reducible refine ACalls.flA (c6 _) ?_ <;> (first | (simp (maxDischargeDepth := 9) -implicitDefEqProofs -dsimp only [go_sem, seval, *]; done) | omega)) | (with_reducible refine ACalls.flA (c7 _) ?_ <;> (first | (simp (maxDischargeDepth := 9) -implicitDefEqProofs -dsimp only [go_sem, seval, *]; done) | omega)) | (with_reducible refine ACalls.flA (c8 _) ?_ <;> (first | (simp (maxDischargeDepth := 9) -implicitDefEqProofs -dsimp only [go_sem, seval, *]; done) | omega)))); (focus (first | trivial | with_reducible exact rfl | (simp (maxDischargeDepth := 9) -implicitDefEqProofs -dsimp only [go_sem, seval]; done)))))
  refine fin_eq ?_
  (repeat' (first | simp (maxDischargeDepth := 9) -implicitDefEqProofs -dsimp only [go_sem, seval, *])) <;> (repeat' refine And.intro ?_ ?_) <;> (first | omega | rfl | assumption | skip)
end Go.Proofs.Ytjichkelfhcbcaa

namespace Fil
open Abs Go
theorem i64_min : IntKind.i64.min = -9223372036854775808 := by decide
theorem i64_max : IntKind.i64.max = 9223372036854775807 := by decide
theorem I64_of {n : Int} (h : IntKind.i64.min ≤ n ∧ n ≤ IntKind.i64.max) : I64 n := by rw [i64_min, i64_max] at h; exact h
theorem arg_int {a : AV} (h : ShV false (.int .i64) a) : ∃ n, a = encInt n ∧ I64 n := by
  obtain ⟨n, e, hn⟩ := shv_int h
  exact ⟨n, e, I64_of hn⟩
theorem arg_gate {a : AV} (h : ShV true (.row [.int .i64, .int .i64]) a) : ∃ x : Int × Int, a = encGate x ∧ I64 x.1 ∧ I64 x.2 := by
  obtain ⟨es, e, p, q, rfl, ⟨n, rfl, hn⟩, p', q', rfl, ⟨m, rfl, hm⟩, rfl⟩ := h
  simp [mkv] at e
  exact ⟨(n, m), e.symm, I64_of hn, I64_of hm⟩
theorem arg_flop {a : AV} (h : ShV true (.row [.int .i64, .bool]) a) : ∃ x : Flop, a = encFlop x ∧ I64 x.next := by
  obtain ⟨es, e, p, q, rfl, ⟨n, rfl, hn⟩, p', q', rfl, ⟨m, rfl⟩, rfl⟩ := h
  simp [mkv] at e
  exact ⟨⟨n, m⟩, e.symm, I64_of hn⟩
structure Wide (g : Aig) : Prop where
  ins : I64 g.ins
  nexts : ∀ f ∈ g.flops, I64 f.next
  gates : ∀ x ∈ g.ands, I64 x.1 ∧ I64 x.2
  lits : ∀ a ∈ g.outs, I64 a
theorem arg_aig {a : AV} (h : ShV true (.row [.int .i64, .slice true (.row [.int .i64, .bool]), .slice true (.row [.int .i64, .int .i64]), .slice false (.int .i64)]) a) : ∃ g : Aig, a = encAig g ∧ Wide g := by
  obtain ⟨es, e, p, q, rfl, ⟨n, rfl, hn⟩, p1, q1, rfl, h1, p2, q2, rfl, h2, p3, q3, rfl, h3, rfl⟩ := h
  obtain ⟨fl, rfl, _, k1⟩ := shc_slice (f := encFlop) (p := fun x : Flop => I64 x.next) h1 fun x hx => arg_flop hx
  obtain ⟨an, rfl, _, k2⟩ := shc_slice (f := encGate) (p := fun x : Int × Int => I64 x.1 ∧ I64 x.2) h2 fun x hx => arg_gate hx
  obtain ⟨ou, rfl, _, k3⟩ := shc_slice (f := encInt) (p := I64) h3 fun x hx => arg_int hx
  simp [mkv] at e
  exact ⟨⟨n, fl, an, ou⟩, e.symm, I64_of hn, k1, k2, k3⟩
def Few (g : Aig) : Prop := g.ins ≤ 200 ∧ g.flops.length ≤ 200 ∧ g.ands.length ≤ 1000 ∧ g.outs.length ≤ 200
end Fil

namespace Fil.Eqv
open Abs Go
def fewB (g : Aig) : Bool := decide (IntKind.i64.wrap (g.ins + g.flops.length) ≤ 8) && decide (-1 ≤ g.ins) && decide (g.flops.length ≤ 8) && decide (g.ands.length ≤ 40) && decide (g.outs.length ≤ 10)
theorem few_spec {g : Aig} (h : fewB g = true) (hw : Wide g) : Wf g ∧ g.flops.length ≤ 8 ∧ g.ands.length ≤ 40 ∧ g.outs.length ≤ 10 ∧ (g.check = 0 → Ok g) := by
  simp only [fewB, Bool.and_eq_true, decide_eq_true_eq] at h
  obtain ⟨⟨⟨⟨h1, h2⟩, h3⟩, h4⟩, h5⟩ := h
  have hwf : Wf g := ⟨hw.ins, by omega, by omega, by omega, hw.nexts, hw.gates, hw.lits⟩
  refine ⟨hwf, h3, h4, h5, fun hc => ⟨hwf, hc, ?_, by omega, by omega⟩⟩
  have hs := check_small hwf hc
  have := hs.hi
  have := hs.lo
  rw [wrap64 _ (by omega) (by omega)] at h1
  exact h1
end Fil.Eqv

namespace Go.Proofs.Ytjichkelfhcbcaa
open Abs Fil Fil.Eqv
open Bd (D encB encF)
theorem law_few (g : Aig) (σ : Sig) : ACalls Try.prog 12 [encAig g] σ (fun r σ' => r = .ret (.bool (fewB g)) ∧ σ' = σ) := by
  refine calls_x mixed Try.func12 b12 n12 rfl q12 (by simp) ?_; unfold c12 r12
  unfold fewB
  obtain ⟨w, hw⟩ : ∃ w, IntKind.i64.wrap (g.ins + g.flops.length) = w := ⟨_, rfl⟩
  rw [hw]
  repeat' (first | simp (maxDischargeDepth := 9) -implicitDefEqProofs -dsimp only [go_sem, seval, ge_iff_le, *] | (with_reducible (first | apply Za) <;> intro hq))
  all_goals refine fin_eq ?_
  all_goals (repeat' (first | simp (maxDischargeDepth := 9) -implicitDefEqProofs -dsimp only [go_sem, seval, *])) <;> (repeat' refine And.intro ?_ ?_) <;> (first | omega | rfl | assumption | skip)
  all_goals (rw [Bool.eq_iff_iff]; simp only [Bool.and_eq_true, decide_eq_true_eq, Bool.false_eq_true]; constructor <;> intro hh <;> first | exact hh.elim | omega)
end Go.Proofs.Ytjichkelfhcbcaa

namespace Fil.Eqv
open Abs
def SwL : List (Int × Int) → List (Int × Int) → Prop
  | [], [] => True
  | x :: l, y :: m => (y = x ∨ y = (x.2, x.1)) ∧ SwL l m
  | _, _ => False
theorem swl_refl : ∀ l, SwL l l
  | [] => trivial
  | x :: l => ⟨.inl rfl, swl_refl l⟩
theorem swl_len : ∀ {l m}, SwL l m → m.length = l.length
  | [], [], _ => rfl
  | x :: l, y :: m, h => by simp [swl_len h.2]
  | [], _ :: _, h => h.elim
  | _ :: _, [], h => h.elim
theorem swl_set : ∀ {l m} {i : Nat} {y : Int × Int}, SwL l m → m[i]? = some y → SwL l (m.set i (y.2, y.1))
  | [], [], i, y, _, h => by simp at h
  | x :: l, z :: m, 0, y, h, e => by
    simp at e; subst e
    refine ⟨?_, h.2⟩
    rcases h.1 with rfl | rfl
    · exact .inr rfl
    · exact .inl rfl
  | x :: l, z :: m, i + 1, y, h, e => ⟨h.1, swl_set (i := i) h.2 (by simpa using e)⟩
  | [], _ :: _, _, _, h, _ => h.elim
  | _ :: _, [], _, _, h, _ => h.elim
theorem swl_vals : ∀ {l m} (v : List Bool), SwL l m → Aig.vals v m = Aig.vals v l
  | [], [], _, _ => rfl
  | x :: l, y :: m, v, h => by
    simp only [Aig.vals]
    rcases h.1 with rfl | rfl
    · exact swl_vals _ h.2
    · rw [Bool.and_comm]; exact swl_vals _ h.2
  | [], _ :: _, _, h => h.elim
  | _ :: _, [], _, h => h.elim
theorem swl_gates : ∀ {l m} (n : Int), SwL l m → Aig.gatesOk n m = Aig.gatesOk n l
  | [], [], _, _ => rfl
  | x :: l, y :: m, n, h => by
    simp only [Aig.gatesOk]
    rw [swl_gates (n + 1) h.2]
    rcases h.1 with rfl | rfl
    · rfl
    · simp only [Bool.and_comm]
  | [], _ :: _, _, h => h.elim
  | _ :: _, [], _, h => h.elim
theorem swl_mem : ∀ {l m} {y : Int × Int}, SwL l m → y ∈ m → ∃ x ∈ l, y = x ∨ y = (x.2, x.1)
  | [], [], _, _, h => by simp at h
  | x :: l, z :: m, y, h, e => by
    rcases List.mem_cons.1 e with rfl | e
    · exact ⟨x, by simp, h.1⟩
    · obtain ⟨w, h1, h2⟩ := swl_mem h.2 e
      exact ⟨w, by simp [h1], h2⟩
  | [], _ :: _, _, h, _ => h.elim
  | _ :: _, [], _, h, _ => h.elim
theorem good_of {g : Aig} (h0 : 0 ≤ g.ins) (h1 : g.count ≤ 65536) (h2 : g.outs.length ≤ 65536) (h3 : g.good = true) : g.check = 0 := by
  have : g.ins ≤ g.count := by unfold Aig.count; omega
  unfold Aig.check
  rw [if_neg (by omega), if_neg (by omega), if_pos h3]
theorem own_ok {g : Aig} (hg : Ok g) (hf : g.ands.length ≤ 40) {m ex : List (Int × Int)} (hm : SwL g.ands m) (hx : ex = [] ∨ ∃ a b, ex = [(a, b)] ∧ g.lit a = true ∧ g.lit b = true) :
    Two g { g with ands := m ++ ex } ∧ (sameS g { g with ands := m ++ ex }).1 = true := by
  have hlo := hg.lo
  have h8 := hg.eight
  have ho := hg.outs
  have hml := swl_len hm
  have hxl : ex.length ≤ 1 := by rcases hx with rfl | ⟨a, b, rfl, _⟩ <;> simp
  have hfl : g.flops.length ≤ 8 := by omega
  have hgc : g.count ≤ 1000 := by unfold Aig.count; omega
  obtain ⟨h, hh⟩ : ∃ h : Aig, h = { g with ands := m ++ ex } := ⟨_, rfl⟩
  have hi : h.ins = g.ins := by rw [hh]
  have hfs : h.flops = g.flops := by rw [hh]
  have hos : h.outs = g.outs := by rw [hh]
  have has : h.ands = m ++ ex := by rw [hh]
  rw [← hh]
  have hc : g.count ≤ h.count := by simp only [Aig.count, hi, hfs, has, List.length_append]; omega
  have hc2 : h.count ≤ 65536 := by simp only [Aig.count, hi, hfs, has, List.length_append]; omega
  have hfi : h.first = g.first := by simp only [Aig.first, hi, hfs]
  have lit_up : ∀ {a}, g.lit a = true → h.lit a = true := fun {a} ha => by
    simp only [Aig.lit, litN_iff] at ha ⊢; omega
  have hgood := hg.good
  have hlits := hg.lits
  have hok : Ok h := by
    have hwf := hg.wf
    refine ⟨⟨by rw [hi]; exact hwf.ins, by rw [hfs]; exact hwf.flops, by rw [has, List.length_append]; omega, by rw [hos]; exact hwf.outs, by rw [hfs]; exact hwf.nexts, ?_, by rw [hos]; exact hwf.lits⟩, ?_, by rw [hi, hfs]; exact h8, by rw [has, List.length_append]; omega, by rw [hos]; exact ho⟩
    · rw [has]
      intro y hy
      rcases List.mem_append.1 hy with q | q
      · obtain ⟨x, h1, rfl | rfl⟩ := swl_mem hm q
        · exact hwf.gates _ h1
        · exact ⟨(hwf.gates _ h1).2, (hwf.gates _ h1).1⟩
      · rcases hx with rfl | ⟨a, b, rfl, ha, hb⟩
        · simp at q
        · simp at q; subst q
          simp only [Aig.lit, litN_iff] at ha hb
          exact ⟨⟨by simp; omega, by simp; omega⟩, ⟨by simp; omega, by simp; omega⟩⟩
    · refine good_of (by omega) hc2 (by rw [hos]; omega) ?_
      simp only [Aig.good, Bool.and_eq_true, Bool.not_eq_true', List.any_eq_false, Bool.not_eq_true, Bool.not_eq_false']
      refine ⟨⟨?_, fun f hf => by rw [lit_up (hlits f.next (by rw [hfs] at hf; simp only [lits, List.mem_append, List.mem_map]; exact .inr ⟨f, hf, rfl⟩))]; simp⟩, fun a ha => by rw [lit_up (hlits a (by rw [hos] at ha; simp only [lits, List.mem_append]; exact .inl ha))]; simp⟩
      rw [hfi, has, gatesOk_append, swl_gates _ hm, good_gates hgood, Bool.true_and]
      rcases hx with rfl | ⟨a, b, rfl, ha, hb⟩
      · rfl
      · simp only [Aig.gatesOk, Bool.and_true, Bool.and_eq_true]
        have cf := count_first g
        rw [hml, ← cf]
        exact ⟨ha, hb⟩
  have t : Two g h := ⟨hg, hok, hi.symm, by rw [hfs], by rw [hos], by rw [has, List.length_append]; omega⟩
  refine ⟨t, ?_⟩
  by_cases hy : (nodeS g h).2 = 0
  · unfold sameS; rw [if_pos hy]
  · obtain ⟨w, _, h2, h3, _⟩ := same_no t hy
    refine absurd ?_ h3
    have hl : lits h = lits g := by simp only [lits, hos, hfs]
    simp only [outV, hl]
    refine List.map_congr_left fun a ha => ?_
    obtain ⟨k1, k2⟩ := lit_at (g := g) (n := w.length) (by unfold Aig.first; omega) (hlits a ha)
    unfold at_
    rw [has, vals_append, swl_vals _ hm]
    obtain ⟨r, hr⟩ := vals_prefix ex (Aig.vals (false :: w) g.ands)
    rw [hr, val_app]
    rw [vals_length, List.length_cons]; omega
theorem own_not {g : Aig} (hg : Ok g) (hf : g.ands.length ≤ 40) {j : Nat} (hj : j < g.outs.length) :
    Two g { g with outs := g.outs.set j (turn g.outs[j]) } ∧ ∃ a b, sameS g { g with outs := g.outs.set j (turn g.outs[j]) } = (false, a, b) ∧ (a.length : Int) = g.ins ∧ b.length = g.flops.length ∧ ∀ x ∈ a, x = false := by
  have hlo := hg.lo
  have h8 := hg.eight
  have ho := hg.outs
  have hfl : g.flops.length ≤ 8 := by omega
  have hgc : g.count ≤ 1000 := by unfold Aig.count; omega
  obtain ⟨h, hh⟩ : ∃ h : Aig, h = { g with outs := g.outs.set j (turn g.outs[j]) } := ⟨_, rfl⟩
  have hi : h.ins = g.ins := by rw [hh]
  have hfs : h.flops = g.flops := by rw [hh]
  have has : h.ands = g.ands := by rw [hh]
  have hos : h.outs = g.outs.set j (turn g.outs[j]) := by rw [hh]
  rw [← hh]
  have hc : h.count = g.count := by simp only [Aig.count, hi, hfs, has]
  have hfi : h.first = g.first := by simp only [Aig.first, hi, hfs]
  have hgood := hg.good
  have hlits := hg.lits
  have hjl : g.lit g.outs[j] = true := hlits _ (by simp only [lits, List.mem_append]; exact .inl (List.getElem_mem hj))
  have hlit : ∀ a, h.lit a = g.lit a := fun a => by simp only [Aig.lit, hc]
  have houts : ∀ a ∈ h.outs, g.lit a = true := fun a ha => by
    rw [hos] at ha
    rcases List.mem_or_eq_of_mem_set ha with q | rfl
    · exact hlits _ (by simp only [lits, List.mem_append]; exact .inl q)
    · exact turn_lit hjl
  have hok : Ok h := by
    have hwf := hg.wf
    refine ⟨⟨by rw [hi]; exact hwf.ins, by rw [hfs]; exact hwf.flops, by rw [has]; exact hwf.ands, by rw [hos, List.length_set]; omega, by rw [hfs]; exact hwf.nexts, by rw [has]; exact hwf.gates, ?_⟩, ?_, by rw [hi, hfs]; exact h8, by rw [has]; exact hg.ands, by rw [hos, List.length_set]; exact ho⟩
    · intro a ha
      have := houts a ha
      simp only [Aig.lit, litN_iff] at this
      exact ⟨by omega, by omega⟩
    · refine good_of (by omega) (by omega) (by rw [hos, List.length_set]; omega) ?_
      simp only [Aig.good, Bool.and_eq_true, Bool.not_eq_true', List.any_eq_false, Bool.not_eq_true, Bool.not_eq_false']
      refine ⟨⟨by rw [hfi, has]; exact good_gates hgood, fun f hf => ?_⟩, fun a ha => ?_⟩
      · rw [hlit, hlits f.next (by rw [hfs] at hf; simp only [lits, List.mem_append, List.mem_map]; exact .inr ⟨f, hf, rfl⟩)]; simp
      · rw [hlit, houts a ha]; simp
  have t : Two g h := ⟨hg, hok, hi.symm, by rw [hfs], by rw [hos, List.length_set], by rw [has]; omega⟩
  refine ⟨t, ?_⟩
  have diff : ∀ w, outV g w ≠ outV h w := fun w e => by
    have e2 : (outV g w)[j]? = (outV h w)[j]? := by rw [e]
    simp only [outV, lits, List.map_append] at e2
    rw [List.getElem?_append_left (by simpa using hj), List.getElem?_append_left (by rw [List.length_map, hos, List.length_set]; exact hj)] at e2
    simp only [List.getElem?_map, hos, List.getElem?_set_self hj, List.getElem?_eq_getElem hj, Option.map_some, Option.some.injEq] at e2
    unfold at_ at e2
    rw [has, val_turn (litN_iff.1 hjl).1] at e2
    cases hv : Aig.val (Aig.vals (false :: w) g.ands) g.outs[j] <;> rw [hv] at e2 <;> simp at e2
  by_cases hy : (nodeS g h).2 = 0
  · obtain ⟨_, k2⟩ := same_yes t hy
    exact absurd (k2 (List.replicate (g.ins + g.flops.length).toNat false) (by rw [zeros]; omega)) (diff _)
  · obtain ⟨w, k1, k2, k3, k4, _⟩ := same_no t hy
    have hw : w = List.replicate w.length false := by
      rcases k4 (List.replicate w.length false) zeros (diff _) with e | ⟨p, a, d, _, e⟩
      · exact e.symm
      · have : true ∈ List.replicate w.length false := by rw [e]; simp
        simp at this
    refine ⟨w.take g.ins.toNat, w.drop g.ins.toNat, by unfold sameS; rw [if_neg hy, k1], by rw [List.length_take]; omega, by rw [List.length_drop]; omega, fun x hx => ?_⟩
    have := List.mem_of_mem_take hx
    rw [hw] at this
    simp at this
    exact this.2
end Fil.Eqv

