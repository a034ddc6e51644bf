/- equiv: contracts of the statements' own functions; EquivSame. -/
import Derived.Test.YtjichkelfhcbcaaAbsU
import Derived.Test.YtjichkelfhcbcaaEqvEqvH
set_option linter.unusedSimpArgs false
set_option linter.unusedVariables false
namespace Fil
open Abs Go
theorem i64_min : IntKind.i64.min = -9223372036854775808 := by decide
theorem i64_max : IntKind.i64.max = 9223372036854775807 := by decide
theorem I64_of {n : Int} (h : IntKind.i64.min ≤ n ∧ n ≤ IntKind.i64.max) : I64 n := by rw [i64_min, i64_max] at h; exact h
theorem arg_int {a : AV} (h : ShV false (.int .i64) a) : ∃ n, a = encInt n ∧ I64 n := by
  obtain ⟨n, e, hn⟩ := shv_int h
  exact ⟨n, e, I64_of hn⟩
theorem arg_bool {a : AV} (h : ShV false .bool a) : ∃ b, a = encBool b ∧ True := by
  obtain ⟨b, e⟩ := shv_bool h
  exact ⟨b, e, trivial⟩
theorem arg_bools {a : AV} (h : ShV false (.slice false .bool) a) : ∃ l : List Bool, a = .slice (l.map encBool) .no ∧ l.length ≤ maxLen := by
  obtain ⟨m, e, h1, _⟩ := shv_slice (f := encBool) (p := fun _ => True) h fun x hx => arg_bool hx
  exact ⟨m, e, h1⟩
theorem arg_gate {a : AV} (h : ShV true (.row [.int .i64, .int .i64]) a) : ∃ x : Int × Int, a = encGate x ∧ I64 x.1 ∧ I64 x.2 := by
  obtain ⟨es, e, p, q, rfl, ⟨n, rfl, hn⟩, p', q', rfl, ⟨m, rfl, hm⟩, rfl⟩ := h
  simp [mkv] at e
  exact ⟨(n, m), e.symm, I64_of hn, I64_of hm⟩
theorem arg_flop {a : AV} (h : ShV true (.row [.int .i64, .bool]) a) : ∃ x : Flop, a = encFlop x ∧ I64 x.next := by
  obtain ⟨es, e, p, q, rfl, ⟨n, rfl, hn⟩, p', q', rfl, ⟨m, rfl⟩, rfl⟩ := h
  simp [mkv] at e
  exact ⟨⟨n, m⟩, e.symm, I64_of hn⟩
structure Wide (g : Aig) : Prop where
  ins : I64 g.ins
  nexts : ∀ f ∈ g.flops, I64 f.next
  gates : ∀ x ∈ g.ands, I64 x.1 ∧ I64 x.2
  lits : ∀ a ∈ g.outs, I64 a
theorem arg_aig {a : AV} (h : ShV true (.row [.int .i64, .slice true (.row [.int .i64, .bool]), .slice true (.row [.int .i64, .int .i64]), .slice false (.int .i64)]) a) : ∃ g : Aig, a = encAig g ∧ Wide g := by
  obtain ⟨es, e, p, q, rfl, ⟨n, rfl, hn⟩, p1, q1, rfl, h1, p2, q2, rfl, h2, p3, q3, rfl, h3, rfl⟩ := h
  obtain ⟨fl, rfl, _, k1⟩ := shc_slice (f := encFlop) (p := fun x : Flop => I64 x.next) h1 fun x hx => arg_flop hx
  obtain ⟨an, rfl, _, k2⟩ := shc_slice (f := encGate) (p := fun x : Int × Int => I64 x.1 ∧ I64 x.2) h2 fun x hx => arg_gate hx
  obtain ⟨ou, rfl, _, k3⟩ := shc_slice (f := encInt) (p := I64) h3 fun x hx => arg_int hx
  simp [mkv] at e
  exact ⟨⟨n, fl, an, ou⟩, e.symm, I64_of hn, k1, k2, k3⟩
def Few (g : Aig) : Prop := g.ins ≤ 200 ∧ g.flops.length ≤ 200 ∧ g.ands.length ≤ 1000 ∧ g.outs.length ≤ 200
end Fil

namespace Fil.Eqv
open Abs Go
def fewB (g : Aig) : Bool := decide (IntKind.i64.wrap (g.ins + g.flops.length) ≤ 8) && decide (-1 ≤ g.ins) && decide (g.flops.length ≤ 8) && decide (g.ands.length ≤ 40) && decide (g.outs.length ≤ 10)
theorem few_spec {g : Aig} (h : fewB g = true) (hw : Wide g) : Wf g ∧ g.flops.length ≤ 8 ∧ g.ands.length ≤ 40 ∧ g.outs.length ≤ 10 ∧ (g.check = 0 → Ok g) := by
  simp only [fewB, Bool.and_eq_true, decide_eq_true_eq] at h
  obtain ⟨⟨⟨⟨h1, h2⟩, h3⟩, h4⟩, h5⟩ := h
  have hwf : Wf g := ⟨hw.ins, by omega, by omega, by omega, hw.nexts, hw.gates, hw.lits⟩
  refine ⟨hwf, h3, h4, h5, fun hc => ⟨hwf, hc, ?_, by omega, by omega⟩⟩
  have hs := check_small hwf hc
  have := hs.hi
  have := hs.lo
  rw [wrap64 _ (by omega) (by omega)] at h1
  exact h1
def chk2' (g h : Aig) : Int := if g.check ≠ 0 then g.check else h.check
theorem two_cases {g h : Aig} (hg : fewB g = true) (hh : fewB h = true) (wg : Wide g) (wh : Wide h) :
    chk2' g h ≠ 0 ∨ (chk2' g h = 0 ∧ ¬ (g.ins = h.ins ∧ g.flops.length = h.flops.length ∧ g.outs.length = h.outs.length)) ∨ Two g h := by
  obtain ⟨_, _, a1, _, g1⟩ := few_spec hg wg
  obtain ⟨_, _, a2, _, h1⟩ := few_spec hh wh
  by_cases c : chk2' g h = 0
  · by_cases s : g.ins = h.ins ∧ g.flops.length = h.flops.length ∧ g.outs.length = h.outs.length
    · right; right
      unfold chk2' at c
      split at c
      · rename_i hne; exact absurd c hne
      · rename_i hz
        exact ⟨g1 (by simpa using hz), h1 c, s.1, s.2.1, s.2.2, by omega⟩
    · exact .inr (.inl ⟨c, s⟩)
  · exact .inl c
def alikeB (g h : Aig) (inp st : List Bool) : Bool :=
  (g.Eval inp st).2.2 == 0 && (h.Eval inp st).2.2 == 0 && decide ((g.Eval inp st).1 = (h.Eval inp st).1) && decide ((g.Eval inp st).2.1 = (h.Eval inp st).2.1)
theorem eval_ok {g : Aig} (hc : g.check = 0) {inp st : List Bool} (h1 : (inp.length : Int) = g.ins) (h2 : st.length = g.flops.length) :
    g.Eval inp st = (g.outs.map (at_ g (inp ++ st)), (g.flops.map (·.next)).map (at_ g (inp ++ st)), 0) := by
  unfold Aig.Eval
  rw [nodes_eq hc h1 h2, if_neg (by simp), List.map_map]
  rfl
theorem outV_eq (g : Aig) (s : List Bool) : outV g s = g.outs.map (at_ g s) ++ (g.flops.map (·.next)).map (at_ g s) := by simp [outV, lits]
theorem alike_ok {g h : Aig} (t : Two g h) {inp st : List Bool} (h1 : (inp.length : Int) = g.ins) (h2 : st.length = g.flops.length) : alikeB g h inp st = decide (outV g (inp ++ st) = outV h (inp ++ st)) := by
  unfold alikeB
  rw [eval_ok t.gg.check h1 h2, eval_ok t.hh.check (by rw [h1, t.ins]) (by rw [h2, t.flops]), outV_eq, outV_eq]
  rw [Bool.eq_iff_iff]
  simp only [Bool.and_eq_true, beq_iff_eq, decide_eq_true_eq, true_and]
  constructor
  · rintro ⟨e1, e2⟩; rw [e1, e2]
  · intro e
    exact List.append_inj e (by simp [t.outs])
theorem same_law {g h : Aig} (t : Two g h) {inp st : List Bool} (h1 : (inp.length : Int) = g.ins) (h2 : st.length = g.flops.length) :
    (sameS g h = (true, [], []) ∧ alikeB g h inp st = true) ∨ (∃ a b, sameS g h = (false, a, b) ∧ (a.length : Int) = g.ins ∧ b.length = g.flops.length ∧ alikeB g h a b = false) := by
  by_cases hy : (nodeS g h).2 = 0
  · left
    obtain ⟨k1, k2⟩ := same_yes t hy
    refine ⟨by unfold sameS; rw [if_pos hy], ?_⟩
    rw [alike_ok t h1 h2, k2 (inp ++ st) (by rw [List.length_append]; omega)]
    simp
  · right
    obtain ⟨w, k1, k2, k3, _⟩ := same_no t hy
    have hlo := t.gg.lo
    refine ⟨w.take g.ins.toNat, w.drop g.ins.toNat, by unfold sameS; rw [if_neg hy, k1], by rw [List.length_take]; omega, by rw [List.length_drop]; omega, ?_⟩
    rw [alike_ok t (by rw [List.length_take]; omega) (by rw [List.length_drop]; omega), List.take_append_drop]
    simpa using k3
end Fil.Eqv

namespace Go.Proofs.Ytjichkelfhcbcaa
open Abs Fil Fil.Eqv
open Bd (D encB encF)
theorem law_few (g : Aig) (σ : Sig) : ACalls Try.prog 12 [encAig g] σ (fun r σ' => r = .ret (.bool (fewB g)) ∧ σ' = σ) := by
  refine calls_x mixed Try.func12 b12 n12 rfl q12 (by simp) ?_; unfold c12 r12
  unfold fewB
  obtain ⟨w, hw⟩ : ∃ w, IntKind.i64.wrap (g.ins + g.flops.length) = w := ⟨_, rfl⟩
  rw [hw]
  repeat' (first | simp (maxDischargeDepth := 9) -implicitDefEqProofs -dsimp only [go_sem, seval, ge_iff_le, *] | simp (disch := omega) only [wrap64, tdiv2, tmod2, and1, xor1, xor_is1, shr1, shr1'] | (with_reducible (first | apply Za | apply Zb | apply Zc | apply Zd | apply Ze | apply Zf | apply Zg | apply Zh | apply Zi | apply Zj | apply Zk | apply Zl | apply Zm | apply Zn | apply Zo | apply Zp | apply Zq | apply Zr | apply Zs) <;> intro hq) | ((with_reducible refine Zv ?_ ?_); focus (first | omega | exact rfl)) | ((with_reducible refine Zu ?_ ?_); focus omega) | ((with_reducible refine Zt (fun oF hoF hnF hnF' => ?_)); clear hnF hnF'; (try simp only [Zw, ne_eq] at hoF)) | fail)
  all_goals refine fin_eq ?_
  all_goals (repeat' (first | simp (maxDischargeDepth := 9) -implicitDefEqProofs -dsimp only [go_sem, seval, *] | simp (disch := omega) only [wrap64, tdiv2, tmod2, and1, xor1, xor_is1, shr1, shr1'])) <;> (repeat' refine And.intro ?_ ?_) <;> (first | omega | rfl | assumption | skip)
  all_goals (rw [Bool.eq_iff_iff]; simp only [Bool.and_eq_true, decide_eq_true_eq, Bool.false_eq_true]; constructor <;> intro hh <;> first | exact hh.elim | omega)
theorem law_alike (g h : Aig) (inp st : List Bool) (σ : Sig) (hg : Wf g) (hh : Wf h) (l1 : (g.Eval inp st).1.length ≤ 1000000000) (l2 : (g.Eval inp st).2.1.length ≤ 1000000000) :
    ACalls Try.prog 24 [encAig g, encAig h, .slice (inp.map encBool) .no, .slice (st.map encBool) .no] σ (fun r σ' => r = .ret (.bool (alikeB g h inp st)) ∧ σ' = σ) := by
  refine calls_x mixed Try.func24 b24 n24 rfl q24 (by simp) ?_; unfold c24 r24
  have c1 := fun τ => A.ref_Eval g inp st τ hg
  have c2 := fun τ => A.ref_Eval h inp st τ hh
  unfold alikeB
  obtain ⟨⟨a, b, e⟩, ha⟩ : ∃ p, g.Eval inp st = p := ⟨_, rfl⟩
  obtain ⟨⟨c, d, f⟩, hc⟩ : ∃ p, h.Eval inp st = p := ⟨_, rfl⟩
  rw [ha] at c1 l1 l2 ⊢
  rw [hc] at c2 ⊢
  simp only at l1 l2 ⊢
  have c3 := fun τ => A.ref_Bools a c τ l1
  have c4 := fun τ => A.ref_Bools b d τ l2
  obtain ⟨p, hp⟩ : ∃ p, decide (a = c) = p := ⟨_, rfl⟩
  obtain ⟨q, hq⟩ : ∃ q, decide (b = d) = q := ⟨_, rfl⟩
  rw [hp] at c3 ⊢
  rw [hq] at c4 ⊢
  clear ha hc hp hq
  cases hx : e == 0 <;> cases hy : f == 0 <;> cases p <;> cases q
  all_goals
    repeat' (first | simp (maxDischargeDepth := 9) -implicitDefEqProofs -dsimp only [go_sem, seval, *] | simp (disch := omega) only [wrap64, tdiv2, tmod2, and1, xor1, xor_is1, shr1, shr1'] | (with_reducible (first | apply Za | apply Zb | apply Zc | apply Zd | apply Ze | apply Zf | apply Zg | apply Zh | apply Zi | apply Zj | apply Zk | apply Zl | apply Zm | apply Zn | apply Zo | apply Zp | apply Zq | apply Zr | apply Zs) <;> intro hq) | ((with_reducible refine Zv ?_ ?_); focus (first | omega | exact rfl)) | ((with_reducible refine Zu ?_ ?_); focus omega) | ((with_reducible refine Zt (fun oF hoF hnF hnF' => ?_)); clear hnF hnF'; (try simp only [Zw, ne_eq] at hoF)) | ((with_reducible apply ACalls.one1); (focus ((first | with_reducible refine c1 _ | with_reducible refine c2 _ | with_reducible refine c3 _ | with_reducible refine c4 _ | with_reducible refine ACalls.flA (c1 _) ?_ | with_reducible refine ACalls.flA (c2 _) ?_ | with_reducible refine ACalls.flA (c3 _) ?_ | with_reducible refine ACalls.flA (c4 _) ?_) <;> (first | (simp (maxDischargeDepth := 9) -implicitDefEqProofs -dsimp only [go_sem, seval, *]; done) | omega))); (focus (first | trivial | with_reducible exact rfl | (simp (maxDischargeDepth := 9) -implicitDefEqProofs -dsimp only [go_sem, seval]; done)))) | fail)
    refine fin_eq ?_
    (repeat' (first | simp (maxDischargeDepth := 9) -implicitDefEqProofs -dsimp only [go_sem, seval, *] | simp (disch := omega) only [wrap64, tdiv2, tmod2, and1, xor1, xor_is1, shr1, shr1'])) <;> (repeat' refine And.intro ?_ ?_) <;> (first | omega | rfl | assumption | skip)
theorem eval_len {g : Aig} (hs : Wf g) (inp st : List Bool) : (g.Eval inp st).1.length ≤ 1000000000 ∧ (g.Eval inp st).2.1.length ≤ 1000000000 := by
  have h1 := hs.outs
  have h2 := hs.flops
  unfold Aig.Eval
  split
  · simp
  · simp; omega
set_option maxHeartbeats 1000000 in
theorem same_law (g h : Aig) (inp st : List Bool) (σ : Sig) (wg : Wide g) (wh : Wide h) (hi : inp.length ≤ 9223372036854775807) (hs : st.length ≤ 9223372036854775807) :
    ACalls Try.prog 5 [encAig g, encAig h, .slice (inp.map encBool) .no, .slice (st.map encBool) .no] σ (fun r σ' => r = .ret (.bool true) ∧ σ' = σ) := by
  refine calls_x mixed Try.func5 b5 n5 rfl q5 (by simp) ?_; unfold c5 r5
  have ez : ((0 : Int) != 0) = false := by decide
  have e1z : ((1 : Int) != 0) = true := by decide
  cases fg : fewB g with
  | false =>
    repeat' (first | simp (maxDischargeDepth := 9) -implicitDefEqProofs -dsimp only [go_sem, seval, *] | simp (disch := omega) only [wrap64, tdiv2, tmod2, and1, xor1, xor_is1, shr1, shr1'] | (with_reducible (first | apply Za | apply Zb | apply Zc | apply Zd | apply Ze | apply Zf | apply Zg | apply Zh | apply Zi | apply Zj | apply Zk | apply Zl | apply Zm | apply Zn | apply Zo | apply Zp | apply Zq | apply Zr | apply Zs) <;> intro hq) | ((with_reducible refine Zv ?_ ?_); focus (first | omega | exact rfl)) | ((with_reducible refine Zu ?_ ?_); focus omega) | ((with_reducible refine Zt (fun oF hoF hnF hnF' => ?_)); clear hnF hnF'; (try simp only [Zw, ne_eq] at hoF)) | ((with_reducible apply ACalls.one1); (focus ((first | with_reducible refine law_live _ | with_reducible refine law_few g _ | with_reducible refine ACalls.flA (law_live _) ?_ | with_reducible refine ACalls.flA (law_few g _) ?_) <;> (first | (simp (maxDischargeDepth := 9) -implicitDefEqProofs -dsimp only [go_sem, seval, *]; done) | omega))); (focus (first | trivial | with_reducible exact rfl | (simp (maxDischargeDepth := 9) -implicitDefEqProofs -dsimp only [go_sem, seval]; done)))) | fail)
    refine fin_eq ?_
    (repeat' (first | simp (maxDischargeDepth := 9) -implicitDefEqProofs -dsimp only [go_sem, seval, *] | simp (disch := omega) only [wrap64, tdiv2, tmod2, and1, xor1, xor_is1, shr1, shr1'])) <;> (repeat' refine And.intro ?_ ?_) <;> (first | omega | rfl | assumption | skip)
  | true =>
  cases fh : fewB h with
  | false =>
    repeat' (first | simp (maxDischargeDepth := 9) -implicitDefEqProofs -dsimp only [go_sem, seval, *] | simp (disch := omega) only [wrap64, tdiv2, tmod2, and1, xor1, xor_is1, shr1, shr1'] | (with_reducible (first | apply Za | apply Zb | apply Zc | apply Zd | apply Ze | apply Zf | apply Zg | apply Zh | apply Zi | apply Zj | apply Zk | apply Zl | apply Zm | apply Zn | apply Zo | apply Zp | apply Zq | apply Zr | apply Zs) <;> intro hq) | ((with_reducible refine Zv ?_ ?_); focus (first | omega | exact rfl)) | ((with_reducible refine Zu ?_ ?_); focus omega) | ((with_reducible refine Zt (fun oF hoF hnF hnF' => ?_)); clear hnF hnF'; (try simp only [Zw, ne_eq] at hoF)) | ((with_reducible apply ACalls.one1); (focus ((first | with_reducible refine law_live _ | with_reducible refine law_few g _ | with_reducible refine law_few h _ | with_reducible refine ACalls.flA (law_live _) ?_ | with_reducible refine ACalls.flA (law_few g _) ?_ | with_reducible refine ACalls.flA (law_few h _) ?_) <;> (first | (simp (maxDischargeDepth := 9) -implicitDefEqProofs -dsimp only [go_sem, seval, *]; done) | omega))); (focus (first | trivial | with_reducible exact rfl | (simp (maxDischargeDepth := 9) -implicitDefEqProofs -dsimp only [go_sem, seval]; done)))) | fail)
    refine fin_eq ?_
    (repeat' (first | simp (maxDischargeDepth := 9) -implicitDefEqProofs -dsimp only [go_sem, seval, *] | simp (disch := omega) only [wrap64, tdiv2, tmod2, and1, xor1, xor_is1, shr1, shr1'])) <;> (repeat' refine And.intro ?_ ?_) <;> (first | omega | rfl | assumption | skip)
  | true =>
  by_cases l1 : (inp.length : Int) ≠ g.ins
  · have hb : ((inp.length : Int) != g.ins) = true := by simpa using l1
    clear l1
    repeat' (first | simp (maxDischargeDepth := 9) -implicitDefEqProofs -dsimp only [go_sem, seval, *] | simp (disch := omega) only [wrap64, tdiv2, tmod2, and1, xor1, xor_is1, shr1, shr1'] | (with_reducible (first | apply Za | apply Zb | apply Zc | apply Zd | apply Ze | apply Zf | apply Zg | apply Zh | apply Zi | apply Zj | apply Zk | apply Zl | apply Zm | apply Zn | apply Zo | apply Zp | apply Zq | apply Zr | apply Zs) <;> intro hq) | ((with_reducible refine Zv ?_ ?_); focus (first | omega | exact rfl)) | ((with_reducible refine Zu ?_ ?_); focus omega) | ((with_reducible refine Zt (fun oF hoF hnF hnF' => ?_)); clear hnF hnF'; (try simp only [Zw, ne_eq] at hoF)) | ((with_reducible apply ACalls.one1); (focus ((first | with_reducible refine law_live _ | with_reducible refine law_few g _ | with_reducible refine law_few h _ | with_reducible refine ACalls.flA (law_live _) ?_ | with_reducible refine ACalls.flA (law_few g _) ?_ | with_reducible refine ACalls.flA (law_few h _) ?_) <;> (first | (simp (maxDischargeDepth := 9) -implicitDefEqProofs -dsimp only [go_sem, seval, *]; done) | omega))); (focus (first | trivial | with_reducible exact rfl | (simp (maxDischargeDepth := 9) -implicitDefEqProofs -dsimp only [go_sem, seval]; done)))) | fail)
    refine fin_eq ?_
    (repeat' (first | simp (maxDischargeDepth := 9) -implicitDefEqProofs -dsimp only [go_sem, seval, *] | simp (disch := omega) only [wrap64, tdiv2, tmod2, and1, xor1, xor_is1, shr1, shr1'])) <;> (repeat' refine And.intro ?_ ?_) <;> (first | omega | rfl | assumption | skip)
  have l1 := Decidable.not_not.1 l1
  by_cases l2 : st.length ≠ g.flops.length
  · have hb1 : ((inp.length : Int) != g.ins) = false := by simpa using l1
    have hb : ((st.length : Int) != g.flops.length) = true := by simp; omega
    clear l1 l2
    repeat' (first | simp (maxDischargeDepth := 9) -implicitDefEqProofs -dsimp only [go_sem, seval, *] | simp (disch := omega) only [wrap64, tdiv2, tmod2, and1, xor1, xor_is1, shr1, shr1'] | (with_reducible (first | apply Za | apply Zb | apply Zc | apply Zd | apply Ze | apply Zf | apply Zg | apply Zh | apply Zi | apply Zj | apply Zk | apply Zl | apply Zm | apply Zn | apply Zo | apply Zp | apply Zq | apply Zr | apply Zs) <;> intro hq) | ((with_reducible refine Zv ?_ ?_); focus (first | omega | exact rfl)) | ((with_reducible refine Zu ?_ ?_); focus omega) | ((with_reducible refine Zt (fun oF hoF hnF hnF' => ?_)); clear hnF hnF'; (try simp only [Zw, ne_eq] at hoF)) | ((with_reducible apply ACalls.one1); (focus ((first | with_reducible refine law_live _ | with_reducible refine law_few g _ | with_reducible refine law_few h _ | with_reducible refine ACalls.flA (law_live _) ?_ | with_reducible refine ACalls.flA (law_few g _) ?_ | with_reducible refine ACalls.flA (law_few h _) ?_) <;> (first | (simp (maxDischargeDepth := 9) -implicitDefEqProofs -dsimp only [go_sem, seval, *]; done) | omega))); (focus (first | trivial | with_reducible exact rfl | (simp (maxDischargeDepth := 9) -implicitDefEqProofs -dsimp only [go_sem, seval]; done)))) | fail)
    refine fin_eq ?_
    (repeat' (first | simp (maxDischargeDepth := 9) -implicitDefEqProofs -dsimp only [go_sem, seval, *] | simp (disch := omega) only [wrap64, tdiv2, tmod2, and1, xor1, xor_is1, shr1, shr1'])) <;> (repeat' refine And.intro ?_ ?_) <;> (first | omega | rfl | assumption | skip)
  have l2 := Decidable.not_not.1 l2
  have hb1 : ((inp.length : Int) != g.ins) = false := by simpa using l1
  have hb2 : ((st.length : Int) != g.flops.length) = false := by simp [l2]
  have hwg := (few_spec fg wg).1
  have hwh := (few_spec fh wh).1
  rcases two_cases fg fh wg wh with hc | ⟨hc, hne⟩ | t
  · obtain ⟨e, he⟩ : ∃ e, chk2 g h = e := ⟨_, rfl⟩
    have h0 : e ≠ 0 := by rw [← he]; exact hc
    have hb : (e != 0) = true := by simpa using h0
    clear l1 l2
    repeat' (first | simp (maxDischargeDepth := 9) -implicitDefEqProofs -dsimp only [go_sem, seval, *] | simp (disch := omega) only [wrap64, tdiv2, tmod2, and1, xor1, xor_is1, shr1, shr1'] | (with_reducible (first | apply Za | apply Zb | apply Zc | apply Zd | apply Ze | apply Zf | apply Zg | apply Zh | apply Zi | apply Zj | apply Zk | apply Zl | apply Zm | apply Zn | apply Zo | apply Zp | apply Zq | apply Zr | apply Zs) <;> intro hq) | ((with_reducible refine Zv ?_ ?_); focus (first | omega | exact rfl)) | ((with_reducible refine Zu ?_ ?_); focus omega) | ((with_reducible refine Zt (fun oF hoF hnF hnF' => ?_)); clear hnF hnF'; (try simp only [Zw, ne_eq] at hoF)) | ((with_reducible apply ACalls.one1); (focus ((first | with_reducible refine law_live _ | with_reducible refine law_few g _ | with_reducible refine law_few h _ | with_reducible refine eq_Same_err g h e hwg hwh he h0 _ | with_reducible refine ACalls.flA (law_live _) ?_ | with_reducible refine ACalls.flA (law_few g _) ?_ | with_reducible refine ACalls.flA (law_few h _) ?_ | with_reducible refine ACalls.flA (eq_Same_err g h e hwg hwh he h0 _) ?_) <;> (first | (simp (maxDischargeDepth := 9) -implicitDefEqProofs -dsimp only [go_sem, seval, *]; done) | omega))); (focus (first | trivial | with_reducible exact rfl | (simp (maxDischargeDepth := 9) -implicitDefEqProofs -dsimp only [go_sem, seval]; done)))) | fail)
    refine fin_eq ?_
    (repeat' (first | simp (maxDischargeDepth := 9) -implicitDefEqProofs -dsimp only [go_sem, seval, *] | simp (disch := omega) only [wrap64, tdiv2, tmod2, and1, xor1, xor_is1, shr1, shr1'])) <;> (repeat' refine And.intro ?_ ?_) <;> (first | omega | rfl | assumption | skip)
  · have hc' : chk2 g h = 0 := hc
    clear l1 l2 hc
    repeat' (first | simp (maxDischargeDepth := 9) -implicitDefEqProofs -dsimp only [go_sem, seval, List.length_nil, *] | simp (disch := omega) only [wrap64, tdiv2, tmod2, and1, xor1, xor_is1, shr1, shr1'] | (with_reducible (first | apply Za | apply Zb | apply Zc | apply Zd | apply Ze | apply Zf | apply Zg | apply Zh | apply Zi | apply Zj | apply Zk | apply Zl | apply Zm | apply Zn | apply Zo | apply Zp | apply Zq | apply Zr | apply Zs) <;> intro hq) | ((with_reducible refine Zv ?_ ?_); focus (first | omega | exact rfl)) | ((with_reducible refine Zu ?_ ?_); focus omega) | ((with_reducible refine Zt (fun oF hoF hnF hnF' => ?_)); clear hnF hnF'; (try simp only [Zw, ne_eq] at hoF)) | ((with_reducible apply ACalls.one1); (focus ((first | with_reducible refine law_live _ | with_reducible refine law_few g _ | with_reducible refine law_few h _ | with_reducible refine eq_Same_arg g h hwg hwh hc' hne _ | with_reducible refine ACalls.flA (law_live _) ?_ | with_reducible refine ACalls.flA (law_few g _) ?_ | with_reducible refine ACalls.flA (law_few h _) ?_ | with_reducible refine ACalls.flA (eq_Same_arg g h hwg hwh hc' hne _) ?_) <;> (first | (simp (maxDischargeDepth := 9) -implicitDefEqProofs -dsimp only [go_sem, seval, *]; done) | omega))); (focus (first | trivial | with_reducible exact rfl | (simp (maxDischargeDepth := 9) -implicitDefEqProofs -dsimp only [go_sem, seval]; done)))) | fail)
    refine fin_eq ?_
    (repeat' (first | simp (maxDischargeDepth := 9) -implicitDefEqProofs -dsimp only [go_sem, seval, *] | simp (disch := omega) only [wrap64, tdiv2, tmod2, and1, xor1, xor_is1, shr1, shr1'])) <;> (repeat' refine And.intro ?_ ?_) <;> (first | omega | rfl | assumption | skip)
  · have hS := fun τ => eq_Same g h t τ
    have hl := eval_len hwg
    rcases Eqv.same_law t l1 l2 with ⟨k1, k2⟩ | ⟨a, b, k1, k2, k3, k4⟩
    · rw [k1] at hS
      have hA := fun τ => law_alike g h inp st τ hwg hwh (hl inp st).1 (hl inp st).2
      rw [k2] at hA
      clear l1 l2 hl k1 k2
      repeat' (first | simp (maxDischargeDepth := 9) -implicitDefEqProofs -dsimp only [go_sem, seval, List.map_nil, List.length_nil, *] | simp (disch := omega) only [wrap64, tdiv2, tmod2, and1, xor1, xor_is1, shr1, shr1'] | (with_reducible (first | apply Za | apply Zb | apply Zc | apply Zd | apply Ze | apply Zf | apply Zg | apply Zh | apply Zi | apply Zj | apply Zk | apply Zl | apply Zm | apply Zn | apply Zo | apply Zp | apply Zq | apply Zr | apply Zs) <;> intro hq) | ((with_reducible refine Zv ?_ ?_); focus (first | omega | exact rfl)) | ((with_reducible refine Zu ?_ ?_); focus omega) | ((with_reducible refine Zt (fun oF hoF hnF hnF' => ?_)); clear hnF hnF'; (try simp only [Zw, ne_eq] at hoF)) | ((with_reducible apply ACalls.one1); (focus ((first | with_reducible refine law_live _ | with_reducible refine law_few g _ | with_reducible refine law_few h _ | with_reducible refine hS _ | with_reducible refine hA _ | with_reducible refine ACalls.flA (law_live _) ?_ | with_reducible refine ACalls.flA (law_few g _) ?_ | with_reducible refine ACalls.flA (law_few h _) ?_ | with_reducible refine ACalls.flA (hS _) ?_ | with_reducible refine ACalls.flA (hA _) ?_) <;> (first | (simp (maxDischargeDepth := 9) -implicitDefEqProofs -dsimp only [go_sem, seval, *]; done) | omega))); (focus (first | trivial | with_reducible exact rfl | (simp (maxDischargeDepth := 9) -implicitDefEqProofs -dsimp only [go_sem, seval]; done)))) | fail)
      refine fin_eq ?_
      (repeat' (first | simp (maxDischargeDepth := 9) -implicitDefEqProofs -dsimp only [go_sem, seval, *] | simp (disch := omega) only [wrap64, tdiv2, tmod2, and1, xor1, xor_is1, shr1, shr1'])) <;> (repeat' refine And.intro ?_ ?_) <;> (first | omega | rfl | assumption | skip)
    · rw [k1] at hS
      have hA := fun τ => law_alike g h a b τ hwg hwh (hl a b).1 (hl a b).2
      rw [k4] at hA
      have hb3 : ((a.length : Int) == g.ins) = true := by simpa using k2
      have hb4 : ((b.length : Int) == g.flops.length) = true := by simp [k3]
      have hla : a.length ≤ 9223372036854775807 := by
        have := wg.ins.2; omega
      have hlb : b.length ≤ 9223372036854775807 := by omega
      clear l1 l2 hl k1 k2 k3 k4
      repeat' (first | simp (maxDischargeDepth := 9) -implicitDefEqProofs -dsimp only [go_sem, seval, *] | simp (disch := omega) only [wrap64, tdiv2, tmod2, and1, xor1, xor_is1, shr1, shr1'] | (with_reducible (first | apply Za | apply Zb | apply Zc | apply Zd | apply Ze | apply Zf | apply Zg | apply Zh | apply Zi | apply Zj | apply Zk | apply Zl | apply Zm | apply Zn | apply Zo | apply Zp | apply Zq | apply Zr | apply Zs) <;> intro hq) | ((with_reducible refine Zv ?_ ?_); focus (first | omega | exact rfl)) | ((with_reducible refine Zu ?_ ?_); focus omega) | ((with_reducible refine Zt (fun oF hoF hnF hnF' => ?_)); clear hnF hnF'; (try simp only [Zw, ne_eq] at hoF)) | ((with_reducible apply ACalls.one1); (focus ((first | with_reducible refine law_live _ | with_reducible refine law_few g _ | with_reducible refine law_few h _ | with_reducible refine hS _ | with_reducible refine hA _ | with_reducible refine ACalls.flA (law_live _) ?_ | with_reducible refine ACalls.flA (law_few g _) ?_ | with_reducible refine ACalls.flA (law_few h _) ?_ | with_reducible refine ACalls.flA (hS _) ?_ | with_reducible refine ACalls.flA (hA _) ?_) <;> (first | (simp (maxDischargeDepth := 9) -implicitDefEqProofs -dsimp only [go_sem, seval, *]; done) | omega))); (focus (first | trivial | with_reducible exact rfl | (simp (maxDischargeDepth := 9) -implicitDefEqProofs -dsimp only [go_sem, seval]; done)))) | fail)
      refine fin_eq ?_
      (repeat' (first | simp (maxDischargeDepth := 9) -implicitDefEqProofs -dsimp only [go_sem, seval, *] | simp (disch := omega) only [wrap64, tdiv2, tmod2, and1, xor1, xor_is1, shr1, shr1'])) <;> (repeat' refine And.intro ?_ ?_) <;> (first | omega | rfl | assumption | skip)
end Go.Proofs.Ytjichkelfhcbcaa

