/- equiv: EquivMiter. -/
import Derived.Test.YtjichkelfhcbcaaAigArg
set_option linter.unusedSimpArgs false
set_option linter.unusedVariables false
namespace Fil.Eqv
open Abs Go
def fewB (g : Aig) : Bool := decide (IntKind.i64.wrap (g.ins + g.flops.length) ≤ 8) && decide (-1 ≤ g.ins) && decide (g.flops.length ≤ 8) && decide (g.ands.length ≤ 40) && decide (g.outs.length ≤ 10)
theorem few_spec {g : Aig} (h : fewB g = true) (hw : Wide g) : Wf g ∧ g.flops.length ≤ 8 ∧ g.ands.length ≤ 40 ∧ g.outs.length ≤ 10 ∧ (g.check = 0 → Ok g) := by
  simp only [fewB, Bool.and_eq_true, decide_eq_true_eq] at h
  obtain ⟨⟨⟨⟨h1, h2⟩, h3⟩, h4⟩, h5⟩ := h
  have hwf : Wf g := ⟨hw.ins, by omega, by omega, by omega, hw.nexts, hw.gates, hw.lits⟩
  refine ⟨hwf, h3, h4, h5, fun hc => ⟨hwf, hc, ?_, by omega, by omega⟩⟩
  have hs := check_small hwf hc
  have := hs.hi
  have := hs.lo
  rw [wrap64 _ (by omega) (by omega)] at h1
  exact h1
def chk2' (g h : Aig) : Int := if g.check ≠ 0 then g.check else h.check
theorem two_cases {g h : Aig} (hg : fewB g = true) (hh : fewB h = true) (wg : Wide g) (wh : Wide h) :
    chk2' g h ≠ 0 ∨ (chk2' g h = 0 ∧ ¬ (g.ins = h.ins ∧ g.flops.length = h.flops.length ∧ g.outs.length = h.outs.length)) ∨ Two g h := by
  obtain ⟨_, _, a1, _, g1⟩ := few_spec hg wg
  obtain ⟨_, _, a2, _, h1⟩ := few_spec hh wh
  by_cases c : chk2' g h = 0
  · by_cases s : g.ins = h.ins ∧ g.flops.length = h.flops.length ∧ g.outs.length = h.outs.length
    · right; right
      unfold chk2' at c
      split at c
      · rename_i hne; exact absurd c hne
      · rename_i hz
        exact ⟨g1 (by simpa using hz), h1 c, s.1, s.2.1, s.2.2, by omega⟩
    · exact .inr (.inl ⟨c, s⟩)
  · exact .inl c
def alikeB (g h : Aig) (inp st : List Bool) : Bool :=
  (g.Eval inp st).2.2 == 0 && (h.Eval inp st).2.2 == 0 && decide ((g.Eval inp st).1 = (h.Eval inp st).1) && decide ((g.Eval inp st).2.1 = (h.Eval inp st).2.1)
theorem eval_ok {g : Aig} (hc : g.check = 0) {inp st : List Bool} (h1 : (inp.length : Int) = g.ins) (h2 : st.length = g.flops.length) :
    g.Eval inp st = (g.outs.map (at_ g (inp ++ st)), (g.flops.map (·.next)).map (at_ g (inp ++ st)), 0) := by
  unfold Aig.Eval
  rw [nodes_eq hc h1 h2, if_neg (by simp), List.map_map]
  rfl
theorem outV_eq (g : Aig) (s : List Bool) : outV g s = g.outs.map (at_ g s) ++ (g.flops.map (·.next)).map (at_ g s) := by simp [outV, lits]
theorem alike_ok {g h : Aig} (t : Two g h) {inp st : List Bool} (h1 : (inp.length : Int) = g.ins) (h2 : st.length = g.flops.length) : alikeB g h inp st = decide (outV g (inp ++ st) = outV h (inp ++ st)) := by
  unfold alikeB
  rw [eval_ok t.gg.check h1 h2, eval_ok t.hh.check (by rw [h1, t.ins]) (by rw [h2, t.flops]), outV_eq, outV_eq]
  rw [Bool.eq_iff_iff]
  simp only [Bool.and_eq_true, beq_iff_eq, decide_eq_true_eq, true_and]
  constructor
  · rintro ⟨e1, e2⟩; rw [e1, e2]
  · intro e
    exact List.append_inj e (by simp [t.outs])
end Fil.Eqv

namespace Go.Proofs.Ytjichkelfhcbcaa
open Abs Fil Fil.Eqv
open Bd (D encB encF)
theorem law_few (g : Aig) (σ : Sig) : ACalls Try.prog 12 [encAig g] σ (fun r σ' => r = .ret (.bool (fewB g)) ∧ σ' = σ) := by
  refine calls_x mixed Try.func12 b12 n12 rfl q12 (by simp) ?_; unfold c12 r12
  unfold fewB
  obtain ⟨w, hw⟩ : ∃ w, IntKind.i64.wrap (g.ins + g.flops.length) = w := ⟨_, rfl⟩
  rw [hw]
  repeat' (first | simp (maxDischargeDepth := 9) -implicitDefEqProofs -dsimp only [go_sem, seval, ge_iff_le, *] | simp (disch := omega) only [wrap64, tdiv2, tmod2, and1, xor1, xor_is1, shr1, shr1'] | (with_reducible (first | apply Za | apply Zb | apply Zc | apply Zd | apply Ze | apply Zf | apply Zg | apply Zh | apply Zi | apply Zj | apply Zk | apply Zl | apply Zm | apply Zn | apply Zo | apply Zp | apply Zq | apply Zr | apply Zs) <;> intro hq) | ((with_reducible refine Zv ?_ ?_); focus (first | omega | exact rfl)) | ((with_reducible refine Zu ?_ ?_); focus omega) | ((with_reducible refine Zt (fun oF hoF hnF hnF' => ?_)); clear hnF hnF'; (try simp only [Zw, ne_eq] at hoF)) | fail)
  all_goals refine fin_eq ?_
  all_goals (repeat' (first | simp (maxDischargeDepth := 9) -implicitDefEqProofs -dsimp only [go_sem, seval, *] | simp (disch := omega) only [wrap64, tdiv2, tmod2, and1, xor1, xor_is1, shr1, shr1'])) <;> (repeat' refine And.intro ?_ ?_) <;> (first | omega | rfl | assumption | skip)
  all_goals (rw [Bool.eq_iff_iff]; simp only [Bool.and_eq_true, decide_eq_true_eq, Bool.false_eq_true]; constructor <;> intro hh <;> first | exact hh.elim | omega)
theorem law_alike (g h : Aig) (inp st : List Bool) (σ : Sig) (hg : Wf g) (hh : Wf h) (l1 : (g.Eval inp st).1.length ≤ 1000000000) (l2 : (g.Eval inp st).2.1.length ≤ 1000000000) :
    ACalls Try.prog 24 [encAig g, encAig h, .slice (inp.map encBool) .no, .slice (st.map encBool) .no] σ (fun r σ' => r = .ret (.bool (alikeB g h inp st)) ∧ σ' = σ) := by
  refine calls_x mixed Try.func24 b24 n24 rfl q24 (by simp) ?_; unfold c24 r24
  have c1 := fun τ => A.ref_Eval g inp st τ hg
  have c2 := fun τ => A.ref_Eval h inp st τ hh
  unfold alikeB
  obtain ⟨⟨a, b, e⟩, ha⟩ : ∃ p, g.Eval inp st = p := ⟨_, rfl⟩
  obtain ⟨⟨c, d, f⟩, hc⟩ : ∃ p, h.Eval inp st = p := ⟨_, rfl⟩
  rw [ha] at c1 l1 l2 ⊢
  rw [hc] at c2 ⊢
  simp only at l1 l2 ⊢
  have c3 := fun τ => A.ref_Bools a c τ l1
  have c4 := fun τ => A.ref_Bools b d τ l2
  obtain ⟨p, hp⟩ : ∃ p, decide (a = c) = p := ⟨_, rfl⟩
  obtain ⟨q, hq⟩ : ∃ q, decide (b = d) = q := ⟨_, rfl⟩
  rw [hp] at c3 ⊢
  rw [hq] at c4 ⊢
  clear ha hc hp hq
  cases hx : e == 0 <;> cases hy : f == 0 <;> cases p <;> cases q
  all_goals
    repeat' (first | simp (maxDischargeDepth := 9) -implicitDefEqProofs -dsimp only [go_sem, seval, *] | simp (disch := omega) only [wrap64, tdiv2, tmod2, and1, xor1, xor_is1, shr1, shr1'] | (with_reducible (first | apply Za | apply Zb | apply Zc | apply Zd | apply Ze | apply Zf | apply Zg | apply Zh | apply Zi | apply Zj | apply Zk | apply Zl | apply Zm | apply Zn | apply Zo | apply Zp | apply Zq | apply Zr | apply Zs) <;> intro hq) | ((with_reducible refine Zv ?_ ?_); focus (first | omega | exact rfl)) | ((with_reducible refine Zu ?_ ?_); focus omega) | ((with_reducible refine Zt (fun oF hoF hnF hnF' => ?_)); clear hnF hnF'; (try simp only [Zw, ne_eq] at hoF)) | ((with_reducible apply ACalls.one1); (focus ((first | with_reducible refine c1 _ | with_reducible refine c2 _ | with_reducible refine c3 _ | with_reducible refine c4 _ | with_reducible refine ACalls.flA (c1 _) ?_ | with_reducible refine ACalls.flA (c2 _) ?_ | with_reducible refine ACalls.flA (c3 _) ?_ | with_reducible refine ACalls.flA (c4 _) ?_) <;> (first | (simp (maxDischargeDepth := 9) -implicitDefEqProofs -dsimp only [go_sem, seval, *]; done) | omega))); (focus (first | trivial | with_reducible exact rfl | (simp (maxDischargeDepth := 9) -implicitDefEqProofs -dsimp only [go_sem, seval]; done)))) | fail)
    refine fin_eq ?_
    (repeat' (first | simp (maxDischargeDepth := 9) -implicitDefEqProofs -dsimp only [go_sem, seval, *] | simp (disch := omega) only [wrap64, tdiv2, tmod2, and1, xor1, xor_is1, shr1, shr1'])) <;> (repeat' refine And.intro ?_ ?_) <;> (first | omega | rfl | assumption | skip)
theorem eval_len {g : Aig} (hs : Wf g) (inp st : List Bool) : (g.Eval inp st).1.length ≤ 1000000000 ∧ (g.Eval inp st).2.1.length ≤ 1000000000 := by
  have h1 := hs.outs
  have h2 := hs.flops
  unfold Aig.Eval
  split
  · simp
  · simp; omega
end Go.Proofs.Ytjichkelfhcbcaa

namespace Fil.Eqv
open Abs Go
theorem miter_eval {g h : Aig} (t : Two g h) {inp st : List Bool} (h1 : (inp.length : Int) = g.ins) (h2 : st.length = g.flops.length) :
    ∃ n, (miterM g h).Eval inp st = ([!alikeB g h inp st], n, 0) := by
  obtain ⟨m1, m2, m3, m4, m5, m6⟩ := miter_ok t
  have hs : (((inp ++ st).length + 1 : Nat) : Int) = g.first := by unfold Aig.first; rw [List.length_append]; omega
  have hv := m6 (inp ++ st) hs
  have e := eval_ok m1.check (inp := inp) (st := st) (by rw [m2]; exact h1) (by rw [m3, List.length_replicate]; exact h2)
  refine ⟨_, e.trans (Prod.ext ?_ rfl)⟩
  show (miterM g h).outs.map (at_ (miterM g h) (inp ++ st)) = [!alikeB g h inp st]
  rw [m4, alike_ok t h1 h2, List.map_cons, List.map_nil, hv]
  by_cases e : outV g (inp ++ st) = outV h (inp ++ st) <;> simp [e]
end Fil.Eqv

namespace Go.Proofs.Ytjichkelfhcbcaa
open Abs Fil Fil.Eqv
open Bd (D encB encF)
set_option maxHeartbeats 1000000 in
theorem miter_law (g h : Aig) (inp st : List Bool) (σ : Sig) (wg : Wide g) (wh : Wide h) (hi : inp.length ≤ 9223372036854775807) (hs : st.length ≤ 9223372036854775807) :
    ACalls Try.prog 7 [encAig g, encAig h, .slice (inp.map encBool) .no, .slice (st.map encBool) .no] σ (fun r σ' => r = .ret (.bool true) ∧ σ' = σ) := by
  refine calls_x mixed Try.func7 b7 n7 rfl q7 (by simp) ?_; unfold c7 r7
  have ez : ((0 : Int) != 0) = false := by decide
  have e0 : ((0 : Int) == 0) = true := by decide
  have e1z : ((1 : Int) != 0) = true := by decide
  cases fg : fewB g with
  | false =>
    repeat' (first | simp (maxDischargeDepth := 9) -implicitDefEqProofs -dsimp only [go_sem, seval, *] | simp (disch := omega) only [wrap64, tdiv2, tmod2, and1, xor1, xor_is1, shr1, shr1'] | (with_reducible (first | apply Za | apply Zb | apply Zc | apply Zd | apply Ze | apply Zf | apply Zg | apply Zh | apply Zi | apply Zj | apply Zk | apply Zl | apply Zm | apply Zn | apply Zo | apply Zp | apply Zq | apply Zr | apply Zs) <;> intro hq) | ((with_reducible refine Zv ?_ ?_); focus (first | omega | exact rfl)) | ((with_reducible refine Zu ?_ ?_); focus omega) | ((with_reducible refine Zt (fun oF hoF hnF hnF' => ?_)); clear hnF hnF'; (try simp only [Zw, ne_eq] at hoF)) | ((with_reducible apply ACalls.one1); (focus ((first | with_reducible refine law_live _ | with_reducible refine law_few g _ | with_reducible refine ACalls.flA (law_live _) ?_ | with_reducible refine ACalls.flA (law_few g _) ?_) <;> (first | (simp (maxDischargeDepth := 9) -implicitDefEqProofs -dsimp only [go_sem, seval, *]; done) | omega))); (focus (first | trivial | with_reducible exact rfl | (simp (maxDischargeDepth := 9) -implicitDefEqProofs -dsimp only [go_sem, seval]; done)))) | fail)
    refine fin_eq ?_
    (repeat' (first | simp (maxDischargeDepth := 9) -implicitDefEqProofs -dsimp only [go_sem, seval, *] | simp (disch := omega) only [wrap64, tdiv2, tmod2, and1, xor1, xor_is1, shr1, shr1'])) <;> (repeat' refine And.intro ?_ ?_) <;> (first | omega | rfl | assumption | skip)
  | true =>
  cases fh : fewB h with
  | false =>
    repeat' (first | simp (maxDischargeDepth := 9) -implicitDefEqProofs -dsimp only [go_sem, seval, *] | simp (disch := omega) only [wrap64, tdiv2, tmod2, and1, xor1, xor_is1, shr1, shr1'] | (with_reducible (first | apply Za | apply Zb | apply Zc | apply Zd | apply Ze | apply Zf | apply Zg | apply Zh | apply Zi | apply Zj | apply Zk | apply Zl | apply Zm | apply Zn | apply Zo | apply Zp | apply Zq | apply Zr | apply Zs) <;> intro hq) | ((with_reducible refine Zv ?_ ?_); focus (first | omega | exact rfl)) | ((with_reducible refine Zu ?_ ?_); focus omega) | ((with_reducible refine Zt (fun oF hoF hnF hnF' => ?_)); clear hnF hnF'; (try simp only [Zw, ne_eq] at hoF)) | ((with_reducible apply ACalls.one1); (focus ((first | with_reducible refine law_live _ | with_reducible refine law_few g _ | with_reducible refine law_few h _ | with_reducible refine ACalls.flA (law_live _) ?_ | with_reducible refine ACalls.flA (law_few g _) ?_ | with_reducible refine ACalls.flA (law_few h _) ?_) <;> (first | (simp (maxDischargeDepth := 9) -implicitDefEqProofs -dsimp only [go_sem, seval, *]; done) | omega))); (focus (first | trivial | with_reducible exact rfl | (simp (maxDischargeDepth := 9) -implicitDefEqProofs -dsimp only [go_sem, seval]; done)))) | fail)
    refine fin_eq ?_
    (repeat' (first | simp (maxDischargeDepth := 9) -implicitDefEqProofs -dsimp only [go_sem, seval, *] | simp (disch := omega) only [wrap64, tdiv2, tmod2, and1, xor1, xor_is1, shr1, shr1'])) <;> (repeat' refine And.intro ?_ ?_) <;> (first | omega | rfl | assumption | skip)
  | true =>
  by_cases l1 : (inp.length : Int) ≠ g.ins
  · have hb : ((inp.length : Int) != g.ins) = true := by simpa using l1
    clear l1
    repeat' (first | simp (maxDischargeDepth := 9) -implicitDefEqProofs -dsimp only [go_sem, seval, *] | simp (disch := omega) only [wrap64, tdiv2, tmod2, and1, xor1, xor_is1, shr1, shr1'] | (with_reducible (first | apply Za | apply Zb | apply Zc | apply Zd | apply Ze | apply Zf | apply Zg | apply Zh | apply Zi | apply Zj | apply Zk | apply Zl | apply Zm | apply Zn | apply Zo | apply Zp | apply Zq | apply Zr | apply Zs) <;> intro hq) | ((with_reducible refine Zv ?_ ?_); focus (first | omega | exact rfl)) | ((with_reducible refine Zu ?_ ?_); focus omega) | ((with_reducible refine Zt (fun oF hoF hnF hnF' => ?_)); clear hnF hnF'; (try simp only [Zw, ne_eq] at hoF)) | ((with_reducible apply ACalls.one1); (focus ((first | with_reducible refine law_live _ | with_reducible refine law_few g _ | with_reducible refine law_few h _ | with_reducible refine ACalls.flA (law_live _) ?_ | with_reducible refine ACalls.flA (law_few g _) ?_ | with_reducible refine ACalls.flA (law_few h _) ?_) <;> (first | (simp (maxDischargeDepth := 9) -implicitDefEqProofs -dsimp only [go_sem, seval, *]; done) | omega))); (focus (first | trivial | with_reducible exact rfl | (simp (maxDischargeDepth := 9) -implicitDefEqProofs -dsimp only [go_sem, seval]; done)))) | fail)
    refine fin_eq ?_
    (repeat' (first | simp (maxDischargeDepth := 9) -implicitDefEqProofs -dsimp only [go_sem, seval, *] | simp (disch := omega) only [wrap64, tdiv2, tmod2, and1, xor1, xor_is1, shr1, shr1'])) <;> (repeat' refine And.intro ?_ ?_) <;> (first | omega | rfl | assumption | skip)
  have l1 := Decidable.not_not.1 l1
  by_cases l2 : st.length ≠ g.flops.length
  · have hb1 : ((inp.length : Int) != g.ins) = false := by simpa using l1
    have hb : ((st.length : Int) != g.flops.length) = true := by simp; omega
    clear l1 l2
    repeat' (first | simp (maxDischargeDepth := 9) -implicitDefEqProofs -dsimp only [go_sem, seval, *] | simp (disch := omega) only [wrap64, tdiv2, tmod2, and1, xor1, xor_is1, shr1, shr1'] | (with_reducible (first | apply Za | apply Zb | apply Zc | apply Zd | apply Ze | apply Zf | apply Zg | apply Zh | apply Zi | apply Zj | apply Zk | apply Zl | apply Zm | apply Zn | apply Zo | apply Zp | apply Zq | apply Zr | apply Zs) <;> intro hq) | ((with_reducible refine Zv ?_ ?_); focus (first | omega | exact rfl)) | ((with_reducible refine Zu ?_ ?_); focus omega) | ((with_reducible refine Zt (fun oF hoF hnF hnF' => ?_)); clear hnF hnF'; (try simp only [Zw, ne_eq] at hoF)) | ((with_reducible apply ACalls.one1); (focus ((first | with_reducible refine law_live _ | with_reducible refine law_few g _ | with_reducible refine law_few h _ | with_reducible refine ACalls.flA (law_live _) ?_ | with_reducible refine ACalls.flA (law_few g _) ?_ | with_reducible refine ACalls.flA (law_few h _) ?_) <;> (first | (simp (maxDischargeDepth := 9) -implicitDefEqProofs -dsimp only [go_sem, seval, *]; done) | omega))); (focus (first | trivial | with_reducible exact rfl | (simp (maxDischargeDepth := 9) -implicitDefEqProofs -dsimp only [go_sem, seval]; done)))) | fail)
    refine fin_eq ?_
    (repeat' (first | simp (maxDischargeDepth := 9) -implicitDefEqProofs -dsimp only [go_sem, seval, *] | simp (disch := omega) only [wrap64, tdiv2, tmod2, and1, xor1, xor_is1, shr1, shr1'])) <;> (repeat' refine And.intro ?_ ?_) <;> (first | omega | rfl | assumption | skip)
  have l2 := Decidable.not_not.1 l2
  have hb1 : ((inp.length : Int) != g.ins) = false := by simpa using l1
  have hb2 : ((st.length : Int) != g.flops.length) = false := by simp [l2]
  have hwg := (few_spec fg wg).1
  have hwh := (few_spec fh wh).1
  rcases two_cases fg fh wg wh with hc | ⟨hc, hne⟩ | t
  · obtain ⟨e, he⟩ : ∃ e, chk2 g h = e := ⟨_, rfl⟩
    have h0 : e ≠ 0 := by rw [← he]; exact hc
    have hb : (e != 0) = true := by simpa using h0
    clear l1 l2
    repeat' (first | simp (maxDischargeDepth := 9) -implicitDefEqProofs -dsimp only [go_sem, seval, *] | simp (disch := omega) only [wrap64, tdiv2, tmod2, and1, xor1, xor_is1, shr1, shr1'] | (with_reducible (first | apply Za | apply Zb | apply Zc | apply Zd | apply Ze | apply Zf | apply Zg | apply Zh | apply Zi | apply Zj | apply Zk | apply Zl | apply Zm | apply Zn | apply Zo | apply Zp | apply Zq | apply Zr | apply Zs) <;> intro hq) | ((with_reducible refine Zv ?_ ?_); focus (first | omega | exact rfl)) | ((with_reducible refine Zu ?_ ?_); focus omega) | ((with_reducible refine Zt (fun oF hoF hnF hnF' => ?_)); clear hnF hnF'; (try simp only [Zw, ne_eq] at hoF)) | ((with_reducible apply ACalls.one1); (focus ((first | with_reducible refine law_live _ | with_reducible refine law_few g _ | with_reducible refine law_few h _ | with_reducible refine eq_Miter_err g h e hwg hwh he h0 _ | with_reducible refine ACalls.flA (law_live _) ?_ | with_reducible refine ACalls.flA (law_few g _) ?_ | with_reducible refine ACalls.flA (law_few h _) ?_ | with_reducible refine ACalls.flA (eq_Miter_err g h e hwg hwh he h0 _) ?_) <;> (first | (simp (maxDischargeDepth := 9) -implicitDefEqProofs -dsimp only [go_sem, seval, *]; done) | omega))); (focus (first | trivial | with_reducible exact rfl | (simp (maxDischargeDepth := 9) -implicitDefEqProofs -dsimp only [go_sem, seval]; done)))) | fail)
    refine fin_eq ?_
    (repeat' (first | simp (maxDischargeDepth := 9) -implicitDefEqProofs -dsimp only [go_sem, seval, *] | simp (disch := omega) only [wrap64, tdiv2, tmod2, and1, xor1, xor_is1, shr1, shr1'])) <;> (repeat' refine And.intro ?_ ?_) <;> (first | omega | rfl | assumption | skip)
  · have hc' : chk2 g h = 0 := hc
    clear l1 l2 hc
    repeat' (first | simp (maxDischargeDepth := 9) -implicitDefEqProofs -dsimp only [go_sem, seval, *] | simp (disch := omega) only [wrap64, tdiv2, tmod2, and1, xor1, xor_is1, shr1, shr1'] | (with_reducible (first | apply Za | apply Zb | apply Zc | apply Zd | apply Ze | apply Zf | apply Zg | apply Zh | apply Zi | apply Zj | apply Zk | apply Zl | apply Zm | apply Zn | apply Zo | apply Zp | apply Zq | apply Zr | apply Zs) <;> intro hq) | ((with_reducible refine Zv ?_ ?_); focus (first | omega | exact rfl)) | ((with_reducible refine Zu ?_ ?_); focus omega) | ((with_reducible refine Zt (fun oF hoF hnF hnF' => ?_)); clear hnF hnF'; (try simp only [Zw, ne_eq] at hoF)) | ((with_reducible apply ACalls.one1); (focus ((first | with_reducible refine law_live _ | with_reducible refine law_few g _ | with_reducible refine law_few h _ | with_reducible refine eq_Miter_arg g h hwg hwh hc' hne _ | with_reducible refine ACalls.flA (law_live _) ?_ | with_reducible refine ACalls.flA (law_few g _) ?_ | with_reducible refine ACalls.flA (law_few h _) ?_ | with_reducible refine ACalls.flA (eq_Miter_arg g h hwg hwh hc' hne _) ?_) <;> (first | (simp (maxDischargeDepth := 9) -implicitDefEqProofs -dsimp only [go_sem, seval, *]; done) | omega))); (focus (first | trivial | with_reducible exact rfl | (simp (maxDischargeDepth := 9) -implicitDefEqProofs -dsimp only [go_sem, seval]; done)))) | fail)
    refine fin_eq ?_
    (repeat' (first | simp (maxDischargeDepth := 9) -implicitDefEqProofs -dsimp only [go_sem, seval, *] | simp (disch := omega) only [wrap64, tdiv2, tmod2, and1, xor1, xor_is1, shr1, shr1'])) <;> (repeat' refine And.intro ?_ ?_) <;> (first | omega | rfl | assumption | skip)
  · have hM := fun τ => eq_Miter g h t τ
    have hl := eval_len hwg inp st
    have hA := fun τ => law_alike g h inp st τ hwg hwh hl.1 hl.2
    have hE := fun τ => A.ref_Eval (miterM g h) inp st τ (miter_ok t).1.wf
    obtain ⟨n, hn⟩ := miter_eval t l1 l2
    rw [hn] at hE
    obtain ⟨b, hb⟩ : ∃ b, alikeB g h inp st = b := ⟨_, rfl⟩
    rw [hb] at hE hA
    clear l1 l2 hl hn hb
    cases b
    · repeat' (first | simp (maxDischargeDepth := 9) -implicitDefEqProofs -dsimp only [go_sem, seval, List.map_cons, List.map_nil, *] | simp (disch := omega) only [wrap64, tdiv2, tmod2, and1, xor1, xor_is1, shr1, shr1'] | (with_reducible (first | apply Za | apply Zb | apply Zc | apply Zd | apply Ze | apply Zf | apply Zg | apply Zh | apply Zi | apply Zj | apply Zk | apply Zl | apply Zm | apply Zn | apply Zo | apply Zp | apply Zq | apply Zr | apply Zs) <;> intro hq) | ((with_reducible refine Zv ?_ ?_); focus (first | omega | exact rfl)) | ((with_reducible refine Zu ?_ ?_); focus omega) | ((with_reducible refine Zt (fun oF hoF hnF hnF' => ?_)); clear hnF hnF'; (try simp only [Zw, ne_eq] at hoF)) | ((with_reducible apply ACalls.one1); (focus ((first | with_reducible refine law_live _ | with_reducible refine law_few g _ | with_reducible refine law_few h _ | with_reducible refine hM _ | with_reducible refine hE _ | with_reducible refine hA _ | with_reducible refine ACalls.flA (law_live _) ?_ | with_reducible refine ACalls.flA (law_few g _) ?_ | with_reducible refine ACalls.flA (law_few h _) ?_ | with_reducible refine ACalls.flA (hM _) ?_ | with_reducible refine ACalls.flA (hE _) ?_ | with_reducible refine ACalls.flA (hA _) ?_) <;> (first | (simp (maxDischargeDepth := 9) -implicitDefEqProofs -dsimp only [go_sem, seval, *]; done) | omega))); (focus (first | trivial | with_reducible exact rfl | (simp (maxDischargeDepth := 9) -implicitDefEqProofs -dsimp only [go_sem, seval]; done)))) | ((with_reducible apply id_one0); (focus (intro tS hS; ((first | with_reducible refine law_live _ | with_reducible refine law_few g _ | with_reducible refine law_few h _ | with_reducible refine hM _ | with_reducible refine hE _ | with_reducible refine hA _ | with_reducible refine ACalls.flA (law_live _) ?_ | with_reducible refine ACalls.flA (law_few g _) ?_ | with_reducible refine ACalls.flA (law_few h _) ?_ | with_reducible refine ACalls.flA (hM _) ?_ | with_reducible refine ACalls.flA (hE _) ?_ | with_reducible refine ACalls.flA (hA _) ?_) <;> (first | (simp (maxDischargeDepth := 9) -implicitDefEqProofs -dsimp only [go_sem, seval, *]; done) | omega | ((with_reducible refine Sub.get hS ?_); simp (maxDischargeDepth := 9) -implicitDefEqProofs -dsimp only [go_sem, seval, *]; done))))); (focus (first | trivial | (simp (maxDischargeDepth := 9) -implicitDefEqProofs -dsimp only [go_sem, seval, *]; done)))) | fail)
      refine fin_eq ?_
      (repeat' (first | simp (maxDischargeDepth := 9) -implicitDefEqProofs -dsimp only [go_sem, seval, *] | simp (disch := omega) only [wrap64, tdiv2, tmod2, and1, xor1, xor_is1, shr1, shr1'])) <;> (repeat' refine And.intro ?_ ?_) <;> (first | omega | rfl | assumption | skip)
    · repeat' (first | simp (maxDischargeDepth := 9) -implicitDefEqProofs -dsimp only [go_sem, seval, List.map_cons, List.map_nil, *] | simp (disch := omega) only [wrap64, tdiv2, tmod2, and1, xor1, xor_is1, shr1, shr1'] | (with_reducible (first | apply Za | apply Zb | apply Zc | apply Zd | apply Ze | apply Zf | apply Zg | apply Zh | apply Zi | apply Zj | apply Zk | apply Zl | apply Zm | apply Zn | apply Zo | apply Zp | apply Zq | apply Zr | apply Zs) <;> intro hq) | ((with_reducible refine Zv ?_ ?_); focus (first | omega | exact rfl)) | ((with_reducible refine Zu ?_ ?_); focus omega) | ((with_reducible refine Zt (fun oF hoF hnF hnF' => ?_)); clear hnF hnF'; (try simp only [Zw, ne_eq] at hoF)) | ((with_reducible apply ACalls.one1); (focus ((first | with_reducible refine law_live _ | with_reducible refine law_few g _ | with_reducible refine law_few h _ | with_reducible refine hM _ | with_reducible refine hE _ | with_reducible refine hA _ | with_reducible refine ACalls.flA (law_live _) ?_ | with_reducible refine ACalls.flA (law_few g _) ?_ | with_reducible refine ACalls.flA (law_few h _) ?_ | with_reducible refine ACalls.flA (hM _) ?_ | with_reducible refine ACalls.flA (hE _) ?_ | with_reducible refine ACalls.flA (hA _) ?_) <;> (first | (simp (maxDischargeDepth := 9) -implicitDefEqProofs -dsimp only [go_sem, seval, *]; done) | omega))); (focus (first | trivial | with_reducible exact rfl | (simp (maxDischargeDepth := 9) -implicitDefEqProofs -dsimp only [go_sem, seval]; done)))) | ((with_reducible apply id_one0); (focus (intro tS hS; ((first | with_reducible refine law_live _ | with_reducible refine law_few g _ | with_reducible refine law_few h _ | with_reducible refine hM _ | with_reducible refine hE _ | with_reducible refine hA _ | with_reducible refine ACalls.flA (law_live _) ?_ | with_reducible refine ACalls.flA (law_few g _) ?_ | with_reducible refine ACalls.flA (law_few h _) ?_ | with_reducible refine ACalls.flA (hM _) ?_ | with_reducible refine ACalls.flA (hE _) ?_ | with_reducible refine ACalls.flA (hA _) ?_) <;> (first | (simp (maxDischargeDepth := 9) -implicitDefEqProofs -dsimp only [go_sem, seval, *]; done) | omega | ((with_reducible refine Sub.get hS ?_); simp (maxDischargeDepth := 9) -implicitDefEqProofs -dsimp only [go_sem, seval, *]; done))))); (focus (first | trivial | (simp (maxDischargeDepth := 9) -implicitDefEqProofs -dsimp only [go_sem, seval, *]; done)))) | fail)
      refine fin_eq ?_
      (repeat' (first | simp (maxDischargeDepth := 9) -implicitDefEqProofs -dsimp only [go_sem, seval, *] | simp (disch := omega) only [wrap64, tdiv2, tmod2, and1, xor1, xor_is1, shr1, shr1'])) <;> (repeat' refine And.intro ?_ ?_) <;> (first | omega | rfl | assumption | skip)
end Go.Proofs.Ytjichkelfhcbcaa

