/- equiv: EquivRuns. -/
import Derived.Test.YtjichkelfhcbcaaAigArg
set_option linter.unusedSimpArgs false
set_option linter.unusedVariables false
namespace Fil.Eqv
open Abs Go
def fewB (g : Aig) : Bool := decide (IntKind.i64.wrap (g.ins + g.flops.length) ≤ 8) && decide (-1 ≤ g.ins) && decide (g.flops.length ≤ 8) && decide (g.ands.length ≤ 40) && decide (g.outs.length ≤ 10)
theorem few_spec {g : Aig} (h : fewB g = true) (hw : Wide g) : Wf g ∧ g.flops.length ≤ 8 ∧ g.ands.length ≤ 40 ∧ g.outs.length ≤ 10 ∧ (g.check = 0 → Ok g) := by
  simp only [fewB, Bool.and_eq_true, decide_eq_true_eq] at h
  obtain ⟨⟨⟨⟨h1, h2⟩, h3⟩, h4⟩, h5⟩ := h
  have hwf : Wf g := ⟨hw.ins, by omega, by omega, by omega, hw.nexts, hw.gates, hw.lits⟩
  refine ⟨hwf, h3, h4, h5, fun hc => ⟨hwf, hc, ?_, by omega, by omega⟩⟩
  have hs := check_small hwf hc
  have := hs.hi
  have := hs.lo
  rw [wrap64 _ (by omega) (by omega)] at h1
  exact h1
def chk2' (g h : Aig) : Int := if g.check ≠ 0 then g.check else h.check
theorem two_cases {g h : Aig} (hg : fewB g = true) (hh : fewB h = true) (wg : Wide g) (wh : Wide h) :
    chk2' g h ≠ 0 ∨ (chk2' g h = 0 ∧ ¬ (g.ins = h.ins ∧ g.flops.length = h.flops.length ∧ g.outs.length = h.outs.length)) ∨ Two g h := by
  obtain ⟨_, _, a1, _, g1⟩ := few_spec hg wg
  obtain ⟨_, _, a2, _, h1⟩ := few_spec hh wh
  by_cases c : chk2' g h = 0
  · by_cases s : g.ins = h.ins ∧ g.flops.length = h.flops.length ∧ g.outs.length = h.outs.length
    · right; right
      unfold chk2' at c
      split at c
      · rename_i hne; exact absurd c hne
      · rename_i hz
        exact ⟨g1 (by simpa using hz), h1 c, s.1, s.2.1, s.2.2, by omega⟩
    · exact .inr (.inl ⟨c, s⟩)
  · exact .inl c
def alikeB (g h : Aig) (inp st : List Bool) : Bool :=
  (g.Eval inp st).2.2 == 0 && (h.Eval inp st).2.2 == 0 && decide ((g.Eval inp st).1 = (h.Eval inp st).1) && decide ((g.Eval inp st).2.1 = (h.Eval inp st).2.1)
theorem eval_ok {g : Aig} (hc : g.check = 0) {inp st : List Bool} (h1 : (inp.length : Int) = g.ins) (h2 : st.length = g.flops.length) :
    g.Eval inp st = (g.outs.map (at_ g (inp ++ st)), (g.flops.map (·.next)).map (at_ g (inp ++ st)), 0) := by
  unfold Aig.Eval
  rw [nodes_eq hc h1 h2, if_neg (by simp), List.map_map]
  rfl
theorem outV_eq (g : Aig) (s : List Bool) : outV g s = g.outs.map (at_ g s) ++ (g.flops.map (·.next)).map (at_ g s) := by simp [outV, lits]
theorem alike_ok {g h : Aig} (t : Two g h) {inp st : List Bool} (h1 : (inp.length : Int) = g.ins) (h2 : st.length = g.flops.length) : alikeB g h inp st = decide (outV g (inp ++ st) = outV h (inp ++ st)) := by
  unfold alikeB
  rw [eval_ok t.gg.check h1 h2, eval_ok t.hh.check (by rw [h1, t.ins]) (by rw [h2, t.flops]), outV_eq, outV_eq]
  rw [Bool.eq_iff_iff]
  simp only [Bool.and_eq_true, beq_iff_eq, decide_eq_true_eq, true_and]
  constructor
  · rintro ⟨e1, e2⟩; rw [e1, e2]
  · intro e
    exact List.append_inj e (by simp [t.outs])
end Fil.Eqv

namespace Go.Proofs.Ytjichkelfhcbcaa
open Abs Fil Fil.Eqv
open Bd (D encB encF)
theorem law_few (g : Aig) (σ : Sig) : ACalls Try.prog 12 [encAig g] σ (fun r σ' => r = .ret (.bool (fewB g)) ∧ σ' = σ) := by
  refine calls_x mixed Try.func12 b12 n12 rfl q12 (by simp) ?_; unfold c12 r12
  unfold fewB
  obtain ⟨w, hw⟩ : ∃ w, IntKind.i64.wrap (g.ins + g.flops.length) = w := ⟨_, rfl⟩
  rw [hw]
  repeat' (first | simp (maxDischargeDepth := 9) -implicitDefEqProofs -dsimp only [go_sem, seval, ge_iff_le, *] | (with_reducible (first | apply Za) <;> intro hq))
  all_goals refine fin_eq ?_
  all_goals (repeat' (first | simp (maxDischargeDepth := 9) -implicitDefEqProofs -dsimp only [go_sem, seval, *])) <;> (repeat' refine And.intro ?_ ?_) <;> (first | omega | rfl | assumption | skip)
  all_goals (rw [Bool.eq_iff_iff]; simp only [Bool.and_eq_true, decide_eq_true_eq, Bool.false_eq_true]; constructor <;> intro hh <;> first | exact hh.elim | omega)
theorem law_alike (g h : Aig) (inp st : List Bool) (σ : Sig) (hg : Wf g) (hh : Wf h) (l1 : (g.Eval inp st).1.length ≤ 1000000000) (l2 : (g.Eval inp st).2.1.length ≤ 1000000000) :
    ACalls Try.prog 24 [encAig g, encAig h, .slice (inp.map encBool) .no, .slice (st.map encBool) .no] σ (fun r σ' => r = .ret (.bool (alikeB g h inp st)) ∧ σ' = σ) := by
  refine calls_x mixed Try.func24 b24 n24 rfl q24 (by simp) ?_; unfold c24 r24
  have c1 := fun τ => A.ref_Eval g inp st τ hg
  have c2 := fun τ => A.ref_Eval h inp st τ hh
  unfold alikeB
  obtain ⟨⟨a, b, e⟩, ha⟩ : ∃ p, g.Eval inp st = p := ⟨_, rfl⟩
  obtain ⟨⟨c, d, f⟩, hc⟩ : ∃ p, h.Eval inp st = p := ⟨_, rfl⟩
  rw [ha] at c1 l1 l2 ⊢
  rw [hc] at c2 ⊢
  simp only at l1 l2 ⊢
  have c3 := fun τ => A.ref_Bools a c τ l1
  have c4 := fun τ => A.ref_Bools b d τ l2
  obtain ⟨p, hp⟩ : ∃ p, decide (a = c) = p := ⟨_, rfl⟩
  obtain ⟨q, hq⟩ : ∃ q, decide (b = d) = q := ⟨_, rfl⟩
  rw [hp] at c3 ⊢
  rw [hq] at c4 ⊢
  clear ha hc hp hq
  cases hx : e == 0 <;> cases hy : f == 0 <;> cases p <;> cases q
  all_goals
    repeat' (first | simp (maxDischargeDepth := 9) -implicitDefEqProofs -dsimp only [go_sem, seval, *] | ((with_reducible apply ACalls.one1); (focus ((first | with_reducible refine c1 _ | with_reducible refine c2 _ | with_reducible refine c3 _ | with_reducible refine c4 _) <;> (first | (simp (maxDischargeDepth := 9) -implicitDefEqProofs -dsimp only [go_sem, seval, *]; done) | omega))); (focus (first | trivial | with_reducible exact rfl | (simp (maxDischargeDepth := 9) -implicitDefEqProofs -dsimp only [go_sem, seval]; done)))))
    refine fin_eq ?_
    (repeat' (first | simp (maxDischargeDepth := 9) -implicitDefEqProofs -dsimp only [go_sem, seval, *])) <;> (repeat' refine And.intro ?_ ?_) <;> (first | omega | rfl | assumption | skip)
theorem eval_len {g : Aig} (hs : Wf g) (inp st : List Bool) : (g.Eval inp st).1.length ≤ 1000000000 ∧ (g.Eval inp st).2.1.length ≤ 1000000000 := by
  have h1 := hs.outs
  have h2 := hs.flops
  unfold Aig.Eval
  split
  · simp
  · simp; omega
end Go.Proofs.Ytjichkelfhcbcaa

namespace Fil.Eqv
open Abs Go
theorem first_law {g h : Aig} (t : Two g h) {inp st : List Bool} (h1 : (inp.length : Int) = g.ins) (h2 : st.length = g.flops.length) :
    sameS h g = sameS g h ∧ (sameS g h = (true, [], []) ∨ ∃ a b, sameS g h = (false, a, b) ∧ a.length = inp.length ∧ b.length = st.length ∧ (inp ++ st = a ++ b → alikeB g h inp st = false) ∧
      ∀ i, (∀ j, j < i → (inp ++ st).getD j false = (a ++ b).getD j false) → (inp ++ st).getD i false ≠ (a ++ b).getD i false → (inp ++ st).getD i false = true ∨ alikeB g h inp st = true) := by
  refine ⟨same_symm t, ?_⟩
  by_cases hy : (nodeS g h).2 = 0
  · left; unfold sameS; rw [if_pos hy]
  · right
    obtain ⟨w, k1, k2, k3, k4, _⟩ := same_no t hy
    have hlo := t.gg.lo
    have hu : (inp ++ st).length = w.length := by rw [List.length_append]; omega
    refine ⟨w.take g.ins.toNat, w.drop g.ins.toNat, by unfold sameS; rw [if_neg hy, k1], by rw [List.length_take]; omega, by rw [List.length_drop]; omega, fun e => ?_, fun i hall hne => ?_⟩
    · rw [List.take_append_drop] at e
      rw [alike_ok t h1 h2, e]; simpa using k3
    · rw [List.take_append_drop] at hall hne
      rw [alike_ok t h1 h2]
      by_cases hd : outV g (inp ++ st) = outV h (inp ++ st)
      · right; simpa using hd
      · left
        rcases k4 (inp ++ st) hu hd with e | ⟨p, a, d, e1, e2⟩
        · rw [e] at hne; exact absurd rfl hne
        · rw [e1, e2] at hall hne
          rw [e2]
          have key : ∀ (x : Bool) (r : List Bool) (j : Nat), (p ++ x :: r).getD j false = if j < p.length then p.getD j false else if j = p.length then x else r.getD (j - p.length - 1) false := fun x r j => by
            simp only [List.getD_eq_getElem?_getD]
            by_cases c : j < p.length
            · rw [if_pos c, List.getElem?_append_left c]
            · rw [if_neg c, List.getElem?_append_right (by omega)]
              by_cases c2 : j = p.length
              · simp [c2]
              · rw [if_neg c2, show j - p.length = (j - p.length - 1) + 1 by omega]; simp
          rw [key, key] at hne
          rw [key]
          rcases Nat.lt_trichotomy i p.length with c | c | c
          · simp [c] at hne
          · simp [c]
          · have := hall p.length c
            rw [key, key] at this
            simp at this
end Fil.Eqv

namespace Go.Proofs.Ytjichkelfhcbcaa
open Abs Fil Fil.Eqv
open Bd (D encB encF)
theorem chk2_symm (g h : Aig) : (chk2 g h = 0) = (chk2 h g = 0) := by
  rw [eq_iff_iff]
  unfold chk2
  by_cases a : g.check = 0 <;> by_cases b : h.check = 0 <;> simp [a, b]
theorem getD_bl (l : List Bool) (i : Nat) (h : i < l.length) : l[i] = l.getD i false := by simp [List.getD_eq_getElem?_getD, h]
set_option maxHeartbeats 2000000 in
theorem first_law (g h : Aig) (inp st : List Bool) (σ : Sig) (wg : Wide g) (wh : Wide h) (hi : inp.length ≤ 9223372036854775807) (hs : st.length ≤ 9223372036854775807) :
    ACalls Try.prog 6 [encAig g, encAig h, .slice (inp.map encBool) .no, .slice (st.map encBool) .no] σ (fun r σ' => r = .ret (.bool true) ∧ σ' = σ) := by
  refine calls_x mixed Try.func6 b6 n6 rfl q6 (by simp) ?_; unfold c6 r6
  have ez : ((0 : Int) != 0) = false := by decide
  have e0 : ((0 : Int) == 0) = true := by decide
  have e1z : ((1 : Int) != 0) = true := by decide
  cases fg : fewB g with
  | false =>
    repeat' (first | simp (maxDischargeDepth := 9) -implicitDefEqProofs -dsimp only [go_sem, seval, *] | simp (disch := omega) only [wrap64] | ((with_reducible refine Zv ?_ ?_); focus (first | omega | exact rfl)) | ((with_reducible refine Zu ?_ ?_); focus omega) | ((with_reducible refine Zt (fun oF hoF hnF hnF' => ?_)); clear hnF hnF'; (try simp only [Zw, ne_eq] at hoF)) | ((with_reducible apply ACalls.one1); (focus ((first | with_reducible refine law_live _ | with_reducible refine law_few g _ | with_reducible refine ACalls.flA (law_live _) ?_ | with_reducible refine ACalls.flA (law_few g _) ?_) <;> (first | (simp (maxDischargeDepth := 9) -implicitDefEqProofs -dsimp only [go_sem, seval, *]; done) | omega))); (focus (first | trivial | with_reducible exact rfl | (simp (maxDischargeDepth := 9) -implicitDefEqProofs -dsimp only [go_sem, seval]; done)))))
    refine fin_eq ?_
    (repeat' (first | simp (maxDischargeDepth := 9) -implicitDefEqProofs -dsimp only [go_sem, seval, *] | simp (disch := omega) only [wrap64])) <;> (repeat' refine And.intro ?_ ?_) <;> (first | omega | rfl | assumption | skip)
  | true =>
  cases fh : fewB h with
  | false =>
    repeat' (first | simp (maxDischargeDepth := 9) -implicitDefEqProofs -dsimp only [go_sem, seval, *] | simp (disch := omega) only [wrap64] | ((with_reducible refine Zv ?_ ?_); focus (first | omega | exact rfl)) | ((with_reducible refine Zu ?_ ?_); focus omega) | ((with_reducible refine Zt (fun oF hoF hnF hnF' => ?_)); clear hnF hnF'; (try simp only [Zw, ne_eq] at hoF)) | ((with_reducible apply ACalls.one1); (focus ((first | with_reducible refine law_live _ | with_reducible refine law_few g _ | with_reducible refine law_few h _ | with_reducible refine ACalls.flA (law_live _) ?_ | with_reducible refine ACalls.flA (law_few g _) ?_ | with_reducible refine ACalls.flA (law_few h _) ?_) <;> (first | (simp (maxDischargeDepth := 9) -implicitDefEqProofs -dsimp only [go_sem, seval, *]; done) | omega))); (focus (first | trivial | with_reducible exact rfl | (simp (maxDischargeDepth := 9) -implicitDefEqProofs -dsimp only [go_sem, seval]; done)))))
    refine fin_eq ?_
    (repeat' (first | simp (maxDischargeDepth := 9) -implicitDefEqProofs -dsimp only [go_sem, seval, *] | simp (disch := omega) only [wrap64])) <;> (repeat' refine And.intro ?_ ?_) <;> (first | omega | rfl | assumption | skip)
  | true =>
  by_cases l1 : (inp.length : Int) ≠ g.ins
  · have hb : ((inp.length : Int) != g.ins) = true := by simpa using l1
    clear l1
    repeat' (first | simp (maxDischargeDepth := 9) -implicitDefEqProofs -dsimp only [go_sem, seval, *] | simp (disch := omega) only [wrap64] | ((with_reducible refine Zv ?_ ?_); focus (first | omega | exact rfl)) | ((with_reducible refine Zu ?_ ?_); focus omega) | ((with_reducible refine Zt (fun oF hoF hnF hnF' => ?_)); clear hnF hnF'; (try simp only [Zw, ne_eq] at hoF)) | ((with_reducible apply ACalls.one1); (focus ((first | with_reducible refine law_live _ | with_reducible refine law_few g _ | with_reducible refine law_few h _ | with_reducible refine ACalls.flA (law_live _) ?_ | with_reducible refine ACalls.flA (law_few g _) ?_ | with_reducible refine ACalls.flA (law_few h _) ?_) <;> (first | (simp (maxDischargeDepth := 9) -implicitDefEqProofs -dsimp only [go_sem, seval, *]; done) | omega))); (focus (first | trivial | with_reducible exact rfl | (simp (maxDischargeDepth := 9) -implicitDefEqProofs -dsimp only [go_sem, seval]; done)))))
    refine fin_eq ?_
    (repeat' (first | simp (maxDischargeDepth := 9) -implicitDefEqProofs -dsimp only [go_sem, seval, *] | simp (disch := omega) only [wrap64])) <;> (repeat' refine And.intro ?_ ?_) <;> (first | omega | rfl | assumption | skip)
  have l1 := Decidable.not_not.1 l1
  by_cases l2 : st.length ≠ g.flops.length
  · have hb1 : ((inp.length : Int) != g.ins) = false := by simpa using l1
    have hb : ((st.length : Int) != g.flops.length) = true := by simp; omega
    clear l1 l2
    repeat' (first | simp (maxDischargeDepth := 9) -implicitDefEqProofs -dsimp only [go_sem, seval, *] | simp (disch := omega) only [wrap64] | ((with_reducible refine Zv ?_ ?_); focus (first | omega | exact rfl)) | ((with_reducible refine Zu ?_ ?_); focus omega) | ((with_reducible refine Zt (fun oF hoF hnF hnF' => ?_)); clear hnF hnF'; (try simp only [Zw, ne_eq] at hoF)) | ((with_reducible apply ACalls.one1); (focus ((first | with_reducible refine law_live _ | with_reducible refine law_few g _ | with_reducible refine law_few h _ | with_reducible refine ACalls.flA (law_live _) ?_ | with_reducible refine ACalls.flA (law_few g _) ?_ | with_reducible refine ACalls.flA (law_few h _) ?_) <;> (first | (simp (maxDischargeDepth := 9) -implicitDefEqProofs -dsimp only [go_sem, seval, *]; done) | omega))); (focus (first | trivial | with_reducible exact rfl | (simp (maxDischargeDepth := 9) -implicitDefEqProofs -dsimp only [go_sem, seval]; done)))))
    refine fin_eq ?_
    (repeat' (first | simp (maxDischargeDepth := 9) -implicitDefEqProofs -dsimp only [go_sem, seval, *] | simp (disch := omega) only [wrap64])) <;> (repeat' refine And.intro ?_ ?_) <;> (first | omega | rfl | assumption | skip)
  have l2 := Decidable.not_not.1 l2
  have hb1 : ((inp.length : Int) != g.ins) = false := by simpa using l1
  have hb2 : ((st.length : Int) != g.flops.length) = false := by simp [l2]
  have hwg := (few_spec fg wg).1
  have hwh := (few_spec fh wh).1
  rcases two_cases fg fh wg wh with hc | ⟨hc, hne⟩ | t
  · obtain ⟨e, he⟩ : ∃ e, chk2 g h = e := ⟨_, rfl⟩
    obtain ⟨f, hf⟩ : ∃ f, chk2 h g = f := ⟨_, rfl⟩
    have h0 : e ≠ 0 := by rw [← he]; exact hc
    have h1 : f ≠ 0 := fun q => by
      have := chk2_symm g h
      rw [he, hf] at this
      exact h0 (this.mpr q)
    have hb : (e != 0) = true := by simpa using h0
    clear l1 l2 hc
    repeat' (first | simp (maxDischargeDepth := 9) -implicitDefEqProofs -dsimp only [go_sem, seval, *] | simp (disch := omega) only [wrap64] | ((with_reducible refine Zv ?_ ?_); focus (first | omega | exact rfl)) | ((with_reducible refine Zu ?_ ?_); focus omega) | ((with_reducible refine Zt (fun oF hoF hnF hnF' => ?_)); clear hnF hnF'; (try simp only [Zw, ne_eq] at hoF)) | ((with_reducible apply ACalls.one1); (focus ((first | with_reducible refine law_live _ | with_reducible refine law_few g _ | with_reducible refine law_few h _ | with_reducible refine eq_Same_err g h e hwg hwh he h0 _ | with_reducible refine eq_Same_err h g f hwh hwg hf h1 _ | with_reducible refine ACalls.flA (law_live _) ?_ | with_reducible refine ACalls.flA (law_few g _) ?_ | with_reducible refine ACalls.flA (law_few h _) ?_ | with_reducible refine ACalls.flA (eq_Same_err g h e hwg hwh he h0 _) ?_ | with_reducible refine ACalls.flA (eq_Same_err h g f hwh hwg hf h1 _) ?_) <;> (first | (simp (maxDischargeDepth := 9) -implicitDefEqProofs -dsimp only [go_sem, seval, *]; done) | omega))); (focus (first | trivial | with_reducible exact rfl | (simp (maxDischargeDepth := 9) -implicitDefEqProofs -dsimp only [go_sem, seval]; done)))))
    refine fin_eq ?_
    (repeat' (first | simp (maxDischargeDepth := 9) -implicitDefEqProofs -dsimp only [go_sem, seval, *] | simp (disch := omega) only [wrap64])) <;> (repeat' refine And.intro ?_ ?_) <;> (first | omega | rfl | assumption | skip)
  · have hc' : chk2 g h = 0 := hc
    have hd' : chk2 h g = 0 := by rw [← chk2_symm]; exact hc'
    have hne' : ¬ (h.ins = g.ins ∧ h.flops.length = g.flops.length ∧ h.outs.length = g.outs.length) := fun q => hne ⟨q.1.symm, q.2.1.symm, q.2.2.symm⟩
    clear l1 l2 hc
    repeat' (first | simp (maxDischargeDepth := 9) -implicitDefEqProofs -dsimp only [go_sem, seval, *] | simp (disch := omega) only [wrap64] | ((with_reducible refine Zv ?_ ?_); focus (first | omega | exact rfl)) | ((with_reducible refine Zu ?_ ?_); focus omega) | ((with_reducible refine Zt (fun oF hoF hnF hnF' => ?_)); clear hnF hnF'; (try simp only [Zw, ne_eq] at hoF)) | ((with_reducible apply ACalls.one1); (focus ((first | with_reducible refine law_live _ | with_reducible refine law_few g _ | with_reducible refine law_few h _ | with_reducible refine eq_Same_arg g h hwg hwh hc' hne _ | with_reducible refine eq_Same_arg h g hwh hwg hd' hne' _ | with_reducible refine ACalls.flA (law_live _) ?_ | with_reducible refine ACalls.flA (law_few g _) ?_ | with_reducible refine ACalls.flA (law_few h _) ?_ | with_reducible refine ACalls.flA (eq_Same_arg g h hwg hwh hc' hne _) ?_ | with_reducible refine ACalls.flA (eq_Same_arg h g hwh hwg hd' hne' _) ?_) <;> (first | (simp (maxDischargeDepth := 9) -implicitDefEqProofs -dsimp only [go_sem, seval, *]; done) | omega))); (focus (first | trivial | with_reducible exact rfl | (simp (maxDischargeDepth := 9) -implicitDefEqProofs -dsimp only [go_sem, seval]; done)))))
    refine fin_eq ?_
    (repeat' (first | simp (maxDischargeDepth := 9) -implicitDefEqProofs -dsimp only [go_sem, seval, *] | simp (disch := omega) only [wrap64])) <;> (repeat' refine And.intro ?_ ?_) <;> (first | omega | rfl | assumption | skip)
  · have hS := fun τ => eq_Same g h t τ
    have hT := fun τ => eq_Same h g t.symm τ
    have hl := eval_len hwg inp st
    have hA := fun τ => law_alike g h inp st τ hwg hwh hl.1 hl.2
    have h8 := t.gg.eight
    have hlo := t.gg.lo
    have hil : inp.length ≤ 8 := by omega
    have hsl : st.length ≤ 8 := by omega
    obtain ⟨ks, kk⟩ := Eqv.first_law t l1 l2
    rw [ks] at hT
    have hs1 := Decidable.em ((sameS g h).1 = true)
    rcases kk with k1 | ⟨a, b, k1, k2, k3, k4, k5⟩
    · rw [k1] at hS hT
      have hB := fun τ => A.ref_Bools [] [] τ (by simp)
      rw [show decide (([] : List Bool) = []) = true by simp] at hB
      clear l1 l2 hl ks k1 hA hs1
      repeat' (first | simp (maxDischargeDepth := 9) -implicitDefEqProofs -dsimp only [go_sem, seval, List.map_nil, *] | simp (disch := omega) only [wrap64] | ((with_reducible refine Zv ?_ ?_); focus (first | omega | exact rfl)) | ((with_reducible refine Zu ?_ ?_); focus omega) | ((with_reducible refine Zt (fun oF hoF hnF hnF' => ?_)); clear hnF hnF'; (try simp only [Zw, ne_eq] at hoF)) | ((with_reducible apply ACalls.one1); (focus ((first | with_reducible refine law_live _ | with_reducible refine law_few g _ | with_reducible refine law_few h _ | with_reducible refine hS _ | with_reducible refine hT _ | with_reducible refine hB _ | with_reducible refine ACalls.flA (law_live _) ?_ | with_reducible refine ACalls.flA (law_few g _) ?_ | with_reducible refine ACalls.flA (law_few h _) ?_ | with_reducible refine ACalls.flA (hS _) ?_ | with_reducible refine ACalls.flA (hT _) ?_ | with_reducible refine ACalls.flA (hB _) ?_) <;> (first | (simp (maxDischargeDepth := 9) -implicitDefEqProofs -dsimp only [go_sem, seval, *]; done) | omega))); (focus (first | trivial | with_reducible exact rfl | (simp (maxDischargeDepth := 9) -implicitDefEqProofs -dsimp only [go_sem, seval]; done)))))
      refine fin_eq ?_
      (repeat' (first | simp (maxDischargeDepth := 9) -implicitDefEqProofs -dsimp only [go_sem, seval, *] | simp (disch := omega) only [wrap64])) <;> (repeat' refine And.intro ?_ ?_) <;> (first | omega | rfl | assumption | skip)
    · rw [k1] at hS hT
      have hB1 := fun τ => A.ref_Bools a a τ (by omega)
      have hB2 := fun τ => A.ref_Bools b b τ (by omega)
      rw [show decide (a = a) = true by simp] at hB1
      rw [show decide (b = b) = true by simp] at hB2
      obtain ⟨x, hx⟩ : ∃ x, alikeB g h inp st = x := ⟨_, rfl⟩
      rw [hx] at hA k4 k5
      obtain ⟨N, hN⟩ : ∃ N, inp.length + st.length = N := ⟨_, rfl⟩
      have hu : (inp ++ st).length = N := by rw [List.length_append]; omega
      have hw : (a ++ b).length = N := by rw [List.length_append]; omega
      have m1 : inp.map encBool ++ st.map encBool = (inp ++ st).map encBool := List.map_append.symm
      have m2 : a.map encBool ++ b.map encBool = (a ++ b).map encBool := List.map_append.symm
      have hal : a.length ≤ 8 := by omega
      have hbl : b.length ≤ 8 := by omega
      obtain ⟨u, hu'⟩ : ∃ u, inp ++ st = u := ⟨_, rfl⟩
      obtain ⟨w, hw'⟩ : ∃ w, a ++ b = w := ⟨_, rfl⟩
      rw [hu'] at hu m1 k4 k5
      rw [hw'] at hw m2 k4 k5
      have hNN : ((N : Int) != N) = false := by simp
      have hN16 : N ≤ 16 := by omega
      have hlu : ((inp.length + st.length : Nat) : Int) = N := by omega
      have hlw : ((a.length + b.length : Nat) : Int) = N := by omega
      clear l1 l2 hl ks k1 hs1 hu' hw' hN
      repeat' (first | simp (maxDischargeDepth := 9) -implicitDefEqProofs -dsimp only [go_sem, seval, List.nil_append, List.length_append, List.length_map, *] | simp (disch := omega) only [wrap64] | ((with_reducible refine Zv ?_ ?_); focus (first | omega | exact rfl)) | ((with_reducible refine Zu ?_ ?_); focus omega) | ((with_reducible refine Zt (fun oF hoF hnF hnF' => ?_)); clear hnF hnF'; (try simp only [Zw, ne_eq] at hoF)) | ((with_reducible apply ACalls.one1); (focus ((first | with_reducible refine law_live _ | with_reducible refine law_few g _ | with_reducible refine law_few h _ | with_reducible refine hS _ | with_reducible refine hT _ | with_reducible refine hB1 _ | with_reducible refine hB2 _ | with_reducible refine ACalls.flA (law_live _) ?_ | with_reducible refine ACalls.flA (law_few g _) ?_ | with_reducible refine ACalls.flA (law_few h _) ?_ | with_reducible refine ACalls.flA (hS _) ?_ | with_reducible refine ACalls.flA (hT _) ?_ | with_reducible refine ACalls.flA (hB1 _) ?_ | with_reducible refine ACalls.flA (hB2 _) ?_) <;> (first | (simp (maxDischargeDepth := 9) -implicitDefEqProofs -dsimp only [go_sem, seval, *]; done) | omega))); (focus (first | trivial | with_reducible exact rfl | (simp (maxDischargeDepth := 9) -implicitDefEqProofs -dsimp only [go_sem, seval]; done)))))
      rename_i oU hoU
      have hNu : ∀ i, i < N → i < u.length := fun i h => by omega
      have hNw : ∀ i, i < N → i < w.length := fun i h => by omega
      have ft : (false == true) = false := by decide
      have tf : (true == false) = false := by decide
      clear m1 m2 hB1 hB2 hS hT hlu hlw hNN hi hs hil hsl h8 hlo hal hbl k2 k3
      refine loop_rule (fun i : Nat => [(20, some (.int .i64 i)), (18, some (.slice (u.map encBool) (.own oU))), (19, some (.slice (w.map encBool) (.own oF))), (9, some (.bool true)), (4, some (.cptr (aigL g))), (5, some (.cptr (aigL h))), (2, some (.slice (inp.map encBool) .no)), (3, some (.slice (st.map encBool) .no))])
        (fun _ => upd (upd σ oU (.grow 1 N)) oF (.grow 1 N)) (fun i => i ≤ N ∧ ∀ j, j < i → u.getD j false = w.getD j false) (fun i => N - i) 0 ?_ ?_
      · (repeat' (first | simp (maxDischargeDepth := 9) -implicitDefEqProofs -dsimp only [go_sem, seval, *] | simp (disch := omega) only [wrap64])) <;> (repeat' refine And.intro ?_ ?_) <;> (first | omega | rfl | assumption | skip)
      · rintro i ⟨h1, h2⟩
        by_cases hlt : i < N
        · have hlt' : (i : Int) < N := by omega
          have hiu := hNu i hlt
          have hiw := hNw i hlt
          have k5' := k5 i h2
          rw [← getD_bl u i hiu, ← getD_bl w i hiw] at k5'
          have h2' : u[i] = w[i] → ∀ j, j < i + 1 → u.getD j false = w.getD j false := fun e j hj => by
            rcases Nat.lt_or_ge j i with c | c
            · exact h2 j c
            · obtain rfl : j = i := by omega
              rw [← getD_bl u j hiu, ← getD_bl w j hiw]; exact e
          obtain ⟨p, hp⟩ : ∃ p, u[i] = p := ⟨_, rfl⟩
          obtain ⟨q, hq⟩ : ∃ q, w[i] = q := ⟨_, rfl⟩
          rw [hp, hq] at k5' h2'
          clear k4 k5 h2
          by_cases hpq : p = q
          · have h3 := h2' hpq
            subst hpq
            clear h2' k5'
            repeat' (first | simp (maxDischargeDepth := 9) -implicitDefEqProofs -dsimp only [go_sem, seval, List.getElem_map, List.length_map, *] | simp (disch := omega) only [wrap64] | ((with_reducible refine Zv ?_ ?_); focus (first | omega | exact rfl)) | ((with_reducible refine Zu ?_ ?_); focus omega) | ((with_reducible refine Zt (fun oF hoF hnF hnF' => ?_)); clear hnF hnF'; (try simp only [Zw, ne_eq] at hoF)) | ((with_reducible apply ACalls.one1); (focus ((first | with_reducible refine hA _ | with_reducible refine ACalls.flA (hA _) ?_) <;> (first | (simp (maxDischargeDepth := 9) -implicitDefEqProofs -dsimp only [go_sem, seval, *]; done) | omega))); (focus (first | trivial | with_reducible exact rfl | (simp (maxDischargeDepth := 9) -implicitDefEqProofs -dsimp only [go_sem, seval]; done)))))
            refine loop_next _ _ _ _ (i + 1) ⟨?_, ?_, ⟨by omega, h3⟩, by omega⟩
            · (repeat' (first | simp (maxDischargeDepth := 9) -implicitDefEqProofs -dsimp only [go_sem, seval, *] | simp (disch := omega) only [wrap64])) <;> (repeat' refine And.intro ?_ ?_) <;> (first | omega | rfl | assumption | skip)
            · (repeat' (first | simp (maxDischargeDepth := 9) -implicitDefEqProofs -dsimp only [go_sem, seval, *] | simp (disch := omega) only [wrap64])) <;> (repeat' refine And.intro ?_ ?_) <;> (first | omega | rfl | assumption | skip)
          · have h4 := k5' hpq
            clear h2' k5'
            cases p
            · have hx1 : x = true := by simpa using h4
              have hq1 : q = true := by cases q <;> simp_all
              subst hx1 hq1
              clear hpq h4
              repeat' (first | simp (maxDischargeDepth := 9) -implicitDefEqProofs -dsimp only [go_sem, seval, List.getElem_map, List.length_map, *] | simp (disch := omega) only [wrap64] | ((with_reducible refine Zv ?_ ?_); focus (first | omega | exact rfl)) | ((with_reducible refine Zu ?_ ?_); focus omega) | ((with_reducible refine Zt (fun oF hoF hnF hnF' => ?_)); clear hnF hnF'; (try simp only [Zw, ne_eq] at hoF)) | ((with_reducible apply ACalls.one1); (focus ((first | with_reducible refine hA _ | with_reducible refine ACalls.flA (hA _) ?_) <;> (first | (simp (maxDischargeDepth := 9) -implicitDefEqProofs -dsimp only [go_sem, seval, *]; done) | omega))); (focus (first | trivial | with_reducible exact rfl | (simp (maxDischargeDepth := 9) -implicitDefEqProofs -dsimp only [go_sem, seval]; done)))))
              refine fin_eq ?_
              (repeat' (first | simp (maxDischargeDepth := 9) -implicitDefEqProofs -dsimp only [go_sem, seval, *] | simp (disch := omega) only [wrap64])) <;> (repeat' refine And.intro ?_ ?_) <;> (first | omega | rfl | assumption | skip)
            · have hq1 : q = false := by cases q <;> simp_all
              subst hq1
              clear hpq h4
              repeat' (first | simp (maxDischargeDepth := 9) -implicitDefEqProofs -dsimp only [go_sem, seval, List.getElem_map, List.length_map, *] | simp (disch := omega) only [wrap64] | ((with_reducible refine Zv ?_ ?_); focus (first | omega | exact rfl)) | ((with_reducible refine Zu ?_ ?_); focus omega) | ((with_reducible refine Zt (fun oF hoF hnF hnF' => ?_)); clear hnF hnF'; (try simp only [Zw, ne_eq] at hoF)) | ((with_reducible apply ACalls.one1); (focus ((first | with_reducible refine hA _ | with_reducible refine ACalls.flA (hA _) ?_) <;> (first | (simp (maxDischargeDepth := 9) -implicitDefEqProofs -dsimp only [go_sem, seval, *]; done) | omega))); (focus (first | trivial | with_reducible exact rfl | (simp (maxDischargeDepth := 9) -implicitDefEqProofs -dsimp only [go_sem, seval]; done)))))
              refine fin_eq ?_
              (repeat' (first | simp (maxDischargeDepth := 9) -implicitDefEqProofs -dsimp only [go_sem, seval, *] | simp (disch := omega) only [wrap64])) <;> (repeat' refine And.intro ?_ ?_) <;> (first | omega | rfl | assumption | skip)
        · have hlt' : ¬ (i : Int) < N := by omega
          have huw : u = w := by
            apply List.ext_getElem (by omega)
            intro j hj1 hj2
            rw [getD_bl u j hj1, getD_bl w j hj2]
            exact h2 j (by omega)
          have hx1 := k4 huw
          subst hx1
          clear k4 k5 h2 huw
          repeat' (first | simp (maxDischargeDepth := 9) -implicitDefEqProofs -dsimp only [go_sem, seval, List.getElem_map, List.length_map, *] | simp (disch := omega) only [wrap64] | ((with_reducible refine Zv ?_ ?_); focus (first | omega | exact rfl)) | ((with_reducible refine Zu ?_ ?_); focus omega) | ((with_reducible refine Zt (fun oF hoF hnF hnF' => ?_)); clear hnF hnF'; (try simp only [Zw, ne_eq] at hoF)) | ((with_reducible apply ACalls.one1); (focus ((first | with_reducible refine hA _ | with_reducible refine ACalls.flA (hA _) ?_) <;> (first | (simp (maxDischargeDepth := 9) -implicitDefEqProofs -dsimp only [go_sem, seval, *]; done) | omega))); (focus (first | trivial | with_reducible exact rfl | (simp (maxDischargeDepth := 9) -implicitDefEqProofs -dsimp only [go_sem, seval]; done)))))
          refine fin_eq ?_
          (repeat' (first | simp (maxDischargeDepth := 9) -implicitDefEqProofs -dsimp only [go_sem, seval, *] | simp (disch := omega) only [wrap64])) <;> (repeat' refine And.intro ?_ ?_) <;> (first | omega | rfl | assumption | skip)
end Go.Proofs.Ytjichkelfhcbcaa

namespace Fil.Eqv
open Abs Go
theorem nodes_bad {g : Aig} (hc : g.check = 0) {inp st : List Bool} (h1 : (inp.length : Int) ≠ g.ins) : (g.Nodes inp st).2 = 1 := by
  unfold Aig.Nodes
  rw [if_neg (by simp [hc]), if_pos (.inl h1)]
theorem runs_ok {g : Aig} (hc : g.check = 0) : ∀ (ins : List (List Bool)) (st : List Bool) (out : List (List Bool)), st.length = g.flops.length → (∀ x ∈ ins, (x.length : Int) = g.ins) →
    ∃ rows, g.runs st out ins = (out ++ rows, 0) ∧ rows.length = ins.length ∧ ∀ r ∈ rows, r.length = g.outs.length
  | [], st, out, _, _ => ⟨[], by simp [Aig.runs], rfl, by simp⟩
  | x :: ins, st, out, hs, hx => by
    have he := eval_ok hc (hx x (by simp)) hs
    simp only [Aig.runs, he, ne_eq, not_true_eq_false, if_false]
    obtain ⟨rows, h1, h2, h3⟩ := runs_ok hc ins ((g.flops.map (·.next)).map (at_ g (x ++ st))) (out ++ [g.outs.map (at_ g (x ++ st))]) (by simp) fun y hy => hx y (by simp [hy])
    refine ⟨g.outs.map (at_ g (x ++ st)) :: rows, by rw [h1]; simp, by simp [h2], fun r hr => ?_⟩
    rcases List.mem_cons.1 hr with rfl | hr
    · simp
    · exact h3 r hr
theorem runs_bad {g : Aig} (hc : g.check = 0) : ∀ (ins : List (List Bool)) (st : List Bool) (out : List (List Bool)), st.length = g.flops.length → (g.runs st out ins).2 = 0 → ∀ x ∈ ins, (x.length : Int) = g.ins
  | [], _, _, _, _, x, hx => by simp at hx
  | y :: ins, st, out, hs, h, x, hx => by
    by_cases hy : (y.length : Int) = g.ins
    · have he := eval_ok hc hy hs
      simp only [Aig.runs, he, ne_eq, not_true_eq_false, if_false] at h
      rcases List.mem_cons.1 hx with rfl | hx
      · exact hy
      · exact runs_bad hc ins _ _ (by simp) h x hx
    · exfalso
      have hb := nodes_bad (st := st) hc hy
      have he : (g.Eval y st).2.2 = 1 := by
        unfold Aig.Eval
        rw [if_pos (by simp [hb])]; exact hb
      simp only [Aig.runs, he] at h
      simp at h
theorem run_iff {g : Aig} (hc : g.check = 0) (ins : List (List Bool)) : ((g.Run ins).2 = 0 ↔ ∀ x ∈ ins, (x.length : Int) = g.ins) ∧ ((g.Run ins).2 = 0 → (g.Run ins).1.length = ins.length ∧ ∀ r ∈ (g.Run ins).1, r.length = g.outs.length) := by
  have e : g.Run ins = g.runs (g.flops.map (·.init)) [] ins := by unfold Aig.Run; rw [if_neg (by simp [hc])]
  rw [e]
  have hs : (g.flops.map (·.init)).length = g.flops.length := by simp
  refine ⟨⟨fun h => runs_bad hc ins _ _ hs h, fun h => ?_⟩, fun h => ?_⟩
  · obtain ⟨rows, h1, _⟩ := runs_ok hc ins _ [] hs h
    rw [h1]
  · obtain ⟨rows, h1, h2, h3⟩ := runs_ok hc ins _ [] hs (runs_bad hc ins _ _ hs h)
    rw [h1]
    exact ⟨by simp [h2], by simpa using h3⟩
theorem runs_same {g h : Aig} (t : Two g h) (he : ∀ w : List Bool, ((w.length : Nat) : Int) = g.ins + g.flops.length → outV g w = outV h w) : ∀ (ins : List (List Bool)) (st : List Bool) (out : List (List Bool)), st.length = g.flops.length →
    (∀ x ∈ ins, (x.length : Int) = g.ins) → g.runs st out ins = h.runs st out ins
  | [], st, out, _, _ => rfl
  | x :: ins, st, out, hs, hx => by
    have hxl := hx x (by simp)
    have e1 := eval_ok t.gg.check hxl hs
    have e2 := eval_ok t.hh.check (inp := x) (st := st) (by rw [hxl, t.ins]) (by rw [hs, t.flops])
    have hw := he (x ++ st) (by rw [List.length_append]; omega)
    rw [outV_eq, outV_eq] at hw
    obtain ⟨q1, q2⟩ := List.append_inj hw (by simp [t.outs])
    simp only [Aig.runs, e1, e2, ne_eq, not_true_eq_false, if_false, q1, q2]
    rw [← q1, ← q2]
    exact runs_same t he ins _ _ (by simp) fun y hy => hx y (by simp [hy])
theorem ne_at : ∀ (a b : List (List Bool)) (i : Int), a.length = b.length → (firstNe a b i = -1 ∧ a = b) ∨ ∃ k : Nat, ∃ ha : k < a.length, ∃ hb : k < b.length, firstNe a b i = i + k ∧ a[k] ≠ b[k] ∧ ∀ j (h : j < k), a[j] = b[j]
  | [], [], i, _ => .inl ⟨rfl, rfl⟩
  | x :: a, y :: b, i, h => by
    by_cases hxy : x = y
    · rcases ne_at a b (i + 1) (by simpa using h) with ⟨h1, h2⟩ | ⟨k, ha, hb, h1, h2, h3⟩
      · exact .inl ⟨by simp only [firstNe, if_pos hxy]; exact h1, by rw [hxy, h2]⟩
      · refine .inr ⟨k + 1, by simp; omega, by simp; omega, by simp only [firstNe, if_pos hxy, h1]; omega, by simpa using h2, fun j hj => ?_⟩
        cases j with
        | zero => simpa using hxy
        | succ j => simpa using h3 j (by omega)
    · exact .inr ⟨0, by simp, by simp, by simp [firstNe, hxy], by simpa using hxy, fun j hj => by omega⟩
end Fil.Eqv

namespace Fil
open Abs Go
def Aig.stAt (g : Aig) (st : List Bool) (ins : List (List Bool)) (i : Nat) : List Bool := (ins.take i).foldl (fun s inp => (g.Eval inp s).2.1) st
theorem runs_err {g : Aig} : ∀ {ins : List (List Bool)} {st : List Bool} {out : List (List Bool)}, (g.runs st out ins).2 ≠ 0 → (g.runs st out ins).1 = []
  | [], st, out, h => by simp [Aig.runs] at h
  | inp :: ins, st, out, h => by
    simp only [Aig.runs] at h ⊢
    split
    · rfl
    · rename_i he; rw [if_neg he] at h; exact runs_err h
theorem run_err {g : Aig} {ins : List (List Bool)} (h : (g.Run ins).2 ≠ 0) : (g.Run ins).1 = [] := by
  unfold Aig.Run at h ⊢
  split
  · rfl
  · rename_i hc; rw [if_neg hc] at h; exact runs_err h
end Fil

namespace Go.Proofs.Ytjichkelfhcbcaa
open Abs Fil Fil.Eqv
open Bd (D encB encF)
def rowsB (ins : List (List Bool)) : Bool := ((ins.take 30).all fun x => decide (x.length ≤ 20)) && decide (ins.length ≤ 20)
theorem law_rows (ins : List (List Bool)) (σ : Sig) (hi : ins.length ≤ 9223372036854775807) (hr : ∀ x ∈ ins, x.length ≤ 9223372036854775807) :
    ACalls Try.prog 17 [.slice (ins.map (encRow encBool)) .no] σ (fun r σ' => r = .ret (.bool (rowsB ins)) ∧ σ' = σ) := by
  refine calls_x mixed Try.func17 b17 n17 rfl q17 (by simp) ?_; unfold c17 r17
  repeat' (first | simp (maxDischargeDepth := 9) -implicitDefEqProofs -dsimp only [go_sem, seval, *] | simp (disch := omega) only [wrap64] | ((with_reducible refine Zu ?_ ?_); focus omega))
  refine loop_rule (fun i : Nat => [(3, some (.int .i64 i)), (0, some (.slice (ins.map (encRow encBool)) .no))]) (fun _ => σ) (fun i => i ≤ ins.length ∧ i ≤ 30 ∧ ∀ j (hj : j < ins.length), j < i → ins[j].length ≤ 20) (fun i => ins.length - i) 0 ?_ ?_
  · (repeat' (first | simp (maxDischargeDepth := 9) -implicitDefEqProofs -dsimp only [go_sem, seval, *] | simp (disch := omega) only [wrap64])) <;> (repeat' refine And.intro ?_ ?_) <;> (first | omega | rfl | assumption | skip)
  · rintro i ⟨h1, h2, h3⟩
    by_cases hlt : i < ins.length
    · by_cases h30 : i < 30
      · have hlt' : (i : Int) < ins.length := by omega
        have h30' : (i : Int) < 30 := by omega
        have hx := hr _ (List.getElem_mem hlt)
        by_cases hl : ins[i].length ≤ 20
        · have h3' : ∀ j (hj : j < ins.length), j < i + 1 → ins[j].length ≤ 20 := fun j hj hji => by
            rcases Nat.lt_or_ge j i with c | c
            · exact h3 j hj c
            · obtain rfl : j = i := by omega
              exact hl
          have hl' : ¬ (20 : Int) < ins[i].length := by omega
          clear h3 hr
          repeat' (first | simp (maxDischargeDepth := 9) -implicitDefEqProofs -dsimp only [go_sem, seval, gt_iff_lt, List.getElem_map, *] | simp (disch := omega) only [wrap64] | ((with_reducible refine Zu ?_ ?_); focus omega))
          refine loop_next _ _ _ _ (i + 1) ⟨?_, ?_, ⟨by omega, by omega, h3'⟩, by omega⟩
          · (repeat' (first | simp (maxDischargeDepth := 9) -implicitDefEqProofs -dsimp only [go_sem, seval, *] | simp (disch := omega) only [wrap64])) <;> (repeat' refine And.intro ?_ ?_) <;> (first | omega | rfl | assumption | skip)
          · (repeat' (first | simp (maxDischargeDepth := 9) -implicitDefEqProofs -dsimp only [go_sem, seval, *] | simp (disch := omega) only [wrap64])) <;> (repeat' refine And.intro ?_ ?_) <;> (first | omega | rfl | assumption | skip)
        · have hv : rowsB ins = false := by
            unfold rowsB
            rw [Bool.and_eq_false_iff]
            left
            rw [List.all_eq_false]
            refine ⟨ins[i], ?_, by simpa using hl⟩
            rw [List.mem_take_iff_getElem]
            exact ⟨i, by omega, rfl⟩
          have hl' : (20 : Int) < ins[i].length := by omega
          rw [hv]
          clear h3 hr
          repeat' (first | simp (maxDischargeDepth := 9) -implicitDefEqProofs -dsimp only [go_sem, seval, gt_iff_lt, List.getElem_map, *] | simp (disch := omega) only [wrap64] | ((with_reducible refine Zu ?_ ?_); focus omega))
          refine fin_eq ?_
          (repeat' (first | simp (maxDischargeDepth := 9) -implicitDefEqProofs -dsimp only [go_sem, seval, *] | simp (disch := omega) only [wrap64])) <;> (repeat' refine And.intro ?_ ?_) <;> (first | omega | rfl | assumption | skip)
      · have h30' : ¬ (i : Int) < 30 := by omega
        have hlt' : (i : Int) < ins.length := by omega
        have hv : rowsB ins = false := by
          unfold rowsB
          rw [Bool.and_eq_false_iff]
          right; simp; omega
        have hn : ¬ (ins.length : Int) ≤ 20 := by omega
        rw [hv]
        clear h3 hr
        repeat' (first | simp (maxDischargeDepth := 9) -implicitDefEqProofs -dsimp only [go_sem, seval, *] | simp (disch := omega) only [wrap64] | ((with_reducible refine Zu ?_ ?_); focus omega))
        refine fin_eq ?_
        (repeat' (first | simp (maxDischargeDepth := 9) -implicitDefEqProofs -dsimp only [go_sem, seval, *] | simp (disch := omega) only [wrap64])) <;> (repeat' refine And.intro ?_ ?_) <;> (first | omega | rfl | assumption | skip)
    · have hlt' : ¬ (i : Int) < ins.length := by omega
      have hv : rowsB ins = decide ((ins.length : Int) ≤ 20) := by
        unfold rowsB
        have : ((ins.take 30).all fun x => decide (x.length ≤ 20)) = true := by
          rw [List.all_eq_true]
          intro x hx
          obtain ⟨j, hj, rfl⟩ := List.mem_take_iff_getElem.1 hx
          simpa using h3 j (by omega) (by omega)
        rw [this, Bool.true_and, decide_eq_decide]; omega
      rw [hv]
      clear h3 hr
      repeat' (first | simp (maxDischargeDepth := 9) -implicitDefEqProofs -dsimp only [go_sem, seval, *] | simp (disch := omega) only [wrap64] | ((with_reducible refine Zu ?_ ?_); focus omega))
      refine fin_eq ?_
      (repeat' (first | simp (maxDischargeDepth := 9) -implicitDefEqProofs -dsimp only [go_sem, seval, *] | simp (disch := omega) only [wrap64])) <;> (repeat' refine And.intro ?_ ?_) <;> (first | omega | rfl | assumption | skip)
theorem eq_Trace_err (g h : Aig) (ins : AV) (e : Int) (hg : Wf g) (hh : Wf h) (he : chk2 g h = e) (h0 : e ≠ 0) (σ : Sig) :
    ACalls Try.prog 20 [encAig g, encAig h, ins] σ (fun r σ' => r = .ret (.tup [.int .i64 0, .int .i64 e]) ∧ σ' = σ) := by
  refine calls_x mixed Try.func20 b20 n20 rfl q20 (by simp) ?_; unfold c20 r20
  have hb : (e != 0) = true := by simpa using h0
  repeat' (first | simp (maxDischargeDepth := 9) -implicitDefEqProofs -dsimp only [go_sem, seval, *] | ((with_reducible apply ACalls.one1); (focus ((first | with_reducible refine eq_checked g h _ hg hh | with_reducible refine ACalls.flA (eq_checked g h _ hg hh) ?_) <;> (first | (simp (maxDischargeDepth := 9) -implicitDefEqProofs -dsimp only [go_sem, seval, *]; done) | omega))); (focus (first | trivial | with_reducible exact rfl | (simp (maxDischargeDepth := 9) -implicitDefEqProofs -dsimp only [go_sem, seval]; done)))))
  refine fin_eq ?_
  (repeat' (first | simp (maxDischargeDepth := 9) -implicitDefEqProofs -dsimp only [go_sem, seval, *])) <;> (repeat' refine And.intro ?_ ?_) <;> (first | omega | rfl | assumption | skip)
theorem eq_Trace_arg (g h : Aig) (ins : AV) (hg : Wf g) (hh : Wf h) (he : chk2 g h = 0) (h0 : ¬ (g.ins = h.ins ∧ g.outs.length = h.outs.length)) (σ : Sig) :
    ACalls Try.prog 20 [encAig g, encAig h, ins] σ (fun r σ' => r = .ret (.tup [.int .i64 0, .int .i64 1]) ∧ σ' = σ) := by
  refine calls_x mixed Try.func20 b20 n20 rfl q20 (by simp) ?_; unfold c20 r20
  have ez : ((0 : Int) != 0) = false := by decide
  by_cases h1 : g.ins = h.ins
  · have hb1 : (g.ins != h.ins) = false := by simpa using h1
    have hb2 : ((g.outs.length : Int) != h.outs.length) = true := by simp; omega
    clear h1 h0
    repeat' (first | simp (maxDischargeDepth := 9) -implicitDefEqProofs -dsimp only [go_sem, seval, *] | ((with_reducible apply ACalls.one1); (focus ((first | with_reducible refine eq_checked g h _ hg hh | with_reducible refine ACalls.flA (eq_checked g h _ hg hh) ?_) <;> (first | (simp (maxDischargeDepth := 9) -implicitDefEqProofs -dsimp only [go_sem, seval, *]; done) | omega))); (focus (first | trivial | with_reducible exact rfl | (simp (maxDischargeDepth := 9) -implicitDefEqProofs -dsimp only [go_sem, seval]; done)))))
    refine fin_eq ?_
    (repeat' (first | simp (maxDischargeDepth := 9) -implicitDefEqProofs -dsimp only [go_sem, seval, *])) <;> (repeat' refine And.intro ?_ ?_) <;> (first | omega | rfl | assumption | skip)
  · have hb1 : (g.ins != h.ins) = true := by simpa using h1
    clear h1 h0
    repeat' (first | simp (maxDischargeDepth := 9) -implicitDefEqProofs -dsimp only [go_sem, seval, *] | ((with_reducible apply ACalls.one1); (focus ((first | with_reducible refine eq_checked g h _ hg hh | with_reducible refine ACalls.flA (eq_checked g h _ hg hh) ?_) <;> (first | (simp (maxDischargeDepth := 9) -implicitDefEqProofs -dsimp only [go_sem, seval, *]; done) | omega))); (focus (first | trivial | with_reducible exact rfl | (simp (maxDischargeDepth := 9) -implicitDefEqProofs -dsimp only [go_sem, seval]; done)))))
    refine fin_eq ?_
    (repeat' (first | simp (maxDischargeDepth := 9) -implicitDefEqProofs -dsimp only [go_sem, seval, *])) <;> (repeat' refine And.intro ?_ ?_) <;> (first | omega | rfl | assumption | skip)
theorem run_facts {g h : Aig} {ins : List (List Bool)} (hg : Wf g) (hh : Wf h) (hc : chk2 g h = 0) (h1 : g.ins = h.ins) (h2 : g.outs.length = h.outs.length) :
    g.check = 0 ∧ h.check = 0 ∧ ((g.Run ins).2 = 0 ↔ (h.Run ins).2 = 0) ∧ ((g.Run ins).2 = 0 → (g.Run ins).1.length = ins.length ∧ (h.Run ins).1.length = ins.length) ∧
    (∀ x ∈ (g.Run ins).1, x.length ≤ 1000000) ∧ (∀ x ∈ (h.Run ins).1, x.length ≤ 1000000) ∧ (ins.length ≤ 20 → (g.Run ins).1.length ≤ 20 ∧ (h.Run ins).1.length ≤ 20) := by
  have hgc : g.check = 0 := by
    unfold chk2 at hc
    split at hc
    · rename_i hne; exact absurd hc hne
    · rename_i hz; simpa using hz
  have hhc : h.check = 0 := by
    unfold chk2 at hc
    rw [if_neg (by simp [hgc])] at hc
    exact hc
  obtain ⟨a1, a2⟩ := run_iff hgc ins
  obtain ⟨b1, b2⟩ := run_iff hhc ins
  have hiff : (g.Run ins).2 = 0 ↔ (h.Run ins).2 = 0 := by rw [a1, b1, h1]
  refine ⟨hgc, hhc, hiff, fun h0 => ⟨(a2 h0).1, (b2 (hiff.1 h0)).1⟩, fun x hx => ?_, fun x hx => ?_, fun hi => ?_⟩
  · by_cases h0 : (g.Run ins).2 = 0
    · have := (a2 h0).2 x hx
      have := hg.outs
      omega
    · rw [run_err h0] at hx; simp at hx
  · by_cases h0 : (h.Run ins).2 = 0
    · have := (b2 h0).2 x hx
      have := hh.outs
      omega
    · rw [run_err h0] at hx; simp at hx
  · constructor
    · by_cases h0 : (g.Run ins).2 = 0
      · rw [(a2 h0).1]; exact hi
      · rw [run_err h0]; simp
    · by_cases h0 : (h.Run ins).2 = 0
      · rw [(b2 h0).1]; exact hi
      · rw [run_err h0]; simp
theorem same_runs {g h : Aig} (t : Two g h) (hs : (sameS g h).1 = true) {ins : List (List Bool)} (h0 : (g.Run ins).2 = 0) (hi : g.flops.map (·.init) = h.flops.map (·.init)) : (g.Run ins).1 = (h.Run ins).1 := by
  by_cases hy : (nodeS g h).2 = 0
  · have he := (same_yes t hy).2
    have hx := (run_iff t.gg.check ins).1.1 h0
    have hr := runs_same t he ins (g.flops.map (·.init)) [] (by simp) hx
    have e1 : g.Run ins = g.runs (g.flops.map (·.init)) [] ins := by unfold Aig.Run; rw [if_neg (by simp [t.gg.check])]
    have e2 : h.Run ins = h.runs (h.flops.map (·.init)) [] ins := by unfold Aig.Run; rw [if_neg (by simp [t.hh.check])]
    rw [e1, e2, ← hi, hr]
  · obtain ⟨w, k1, _⟩ := same_no t hy
    unfold sameS at hs
    rw [if_neg hy, k1] at hs
    simp at hs
theorem same_tells (g h : Aig) (ins : List (List Bool)) (fg : fewB g = true) (fh : fewB h = true) (wg : Wide g) (wh : Wide h) (hc : chk2 g h = 0) (h0 : (g.Run ins).2 = 0) :
    ∃ (s : Bool) (p q : List AV) (e : Int) (y : Bool), (∀ τ, ACalls Try.prog 23 [encAig g, encAig h] τ (fun r σ' => r = .ret (.tup [.bool s, .slice p .no, .slice q .no, .int .i64 e]) ∧ σ' = τ)) ∧
      decide (g.flops.map (·.init) = h.flops.map (·.init)) = y ∧ (e ≠ 0 ∨ (e = 0 ∧ s = false) ∨ (e = 0 ∧ s = true ∧ y = false) ∨ (e = 0 ∧ s = true ∧ y = true ∧ (g.Run ins).1 = (h.Run ins).1)) := by
  rcases two_cases fg fh wg wh with hc' | ⟨hc', hne⟩ | t
  · exact absurd hc hc'
  · exact ⟨false, [], [], 1, _, fun τ => eq_Same_arg g h (few_spec fg wg).1 (few_spec fh wh).1 hc hne τ, rfl, .inl (by decide)⟩
  · refine ⟨(sameS g h).1, _, _, 0, _, fun τ => eq_Same g h t τ, rfl, .inr ?_⟩
    by_cases hs : (sameS g h).1 = true
    · by_cases hi : g.flops.map (·.init) = h.flops.map (·.init)
      · exact .inr (.inr ⟨rfl, hs, by simp [hi], same_runs t hs h0 hi⟩)
      · exact .inr (.inl ⟨rfl, hs, by simp [hi]⟩)
    · exact .inl ⟨rfl, by simpa using hs⟩
set_option maxRecDepth 20000 in
set_option maxHeartbeats 4000000 in
theorem runs_law (g h : Aig) (ins : List (List Bool)) (σ : Sig) (wg : Wide g) (wh : Wide h) (hi : ins.length ≤ 9223372036854775807) (hr : ∀ x ∈ ins, x.length ≤ 9223372036854775807) :
    ACalls Try.prog 8 [encAig g, encAig h, .slice (ins.map (encRow encBool)) .no] σ (fun r σ' => r = .ret (.bool true) ∧ σ' = σ) := by
  refine calls_x mixed Try.func8 b8 n8 rfl q8 (by simp) ?_; unfold c8 r8
  have ez : ((0 : Int) != 0) = false := by decide
  have e1z : ((1 : Int) != 0) = true := by decide
  cases fg : fewB g with
  | false =>
    repeat' (first | simp (maxDischargeDepth := 9) -implicitDefEqProofs -dsimp only [go_sem, seval, *] | simp (disch := omega) only [wrap64] | ((with_reducible refine Zu ?_ ?_); focus omega) | ((with_reducible apply ACalls.one1); (focus ((first | with_reducible refine law_live _ | with_reducible refine law_few g _) <;> (first | (simp (maxDischargeDepth := 9) -implicitDefEqProofs -dsimp only [go_sem, seval, *]; done) | omega))); (focus (first | trivial | with_reducible exact rfl | (simp (maxDischargeDepth := 9) -implicitDefEqProofs -dsimp only [go_sem, seval]; done)))))
    refine fin_eq ?_
    (repeat' (first | simp (maxDischargeDepth := 9) -implicitDefEqProofs -dsimp only [go_sem, seval, *] | simp (disch := omega) only [wrap64])) <;> (repeat' refine And.intro ?_ ?_) <;> (first | omega | rfl | assumption | skip)
  | true =>
  cases fh : fewB h with
  | false =>
    repeat' (first | simp (maxDischargeDepth := 9) -implicitDefEqProofs -dsimp only [go_sem, seval, *] | simp (disch := omega) only [wrap64] | ((with_reducible refine Zu ?_ ?_); focus omega) | ((with_reducible apply ACalls.one1); (focus ((first | with_reducible refine law_live _ | with_reducible refine law_few g _ | with_reducible refine law_few h _) <;> (first | (simp (maxDischargeDepth := 9) -implicitDefEqProofs -dsimp only [go_sem, seval, *]; done) | omega))); (focus (first | trivial | with_reducible exact rfl | (simp (maxDischargeDepth := 9) -implicitDefEqProofs -dsimp only [go_sem, seval]; done)))))
    refine fin_eq ?_
    (repeat' (first | simp (maxDischargeDepth := 9) -implicitDefEqProofs -dsimp only [go_sem, seval, *] | simp (disch := omega) only [wrap64])) <;> (repeat' refine And.intro ?_ ?_) <;> (first | omega | rfl | assumption | skip)
  | true =>
  have hR := fun τ => law_rows ins τ hi hr
  clear hr
  cases fr : rowsB ins with
  | false =>
    rw [fr] at hR
    repeat' (first | simp (maxDischargeDepth := 9) -implicitDefEqProofs -dsimp only [go_sem, seval, *] | simp (disch := omega) only [wrap64] | ((with_reducible refine Zu ?_ ?_); focus omega) | ((with_reducible apply ACalls.one1); (focus ((first | with_reducible refine law_live _ | with_reducible refine law_few g _ | with_reducible refine law_few h _ | with_reducible refine hR _) <;> (first | (simp (maxDischargeDepth := 9) -implicitDefEqProofs -dsimp only [go_sem, seval, *]; done) | omega))); (focus (first | trivial | with_reducible exact rfl | (simp (maxDischargeDepth := 9) -implicitDefEqProofs -dsimp only [go_sem, seval]; done)))))
    refine fin_eq ?_
    (repeat' (first | simp (maxDischargeDepth := 9) -implicitDefEqProofs -dsimp only [go_sem, seval, *] | simp (disch := omega) only [wrap64])) <;> (repeat' refine And.intro ?_ ?_) <;> (first | omega | rfl | assumption | skip)
  | true =>
  rw [fr] at hR
  have hi20 : ins.length ≤ 20 := by
    unfold rowsB at fr
    simp only [Bool.and_eq_true, decide_eq_true_eq] at fr
    exact fr.2
  have hwg := (few_spec fg wg).1
  have hwh := (few_spec fh wh).1
  by_cases hc : chk2 g h = 0
  · by_cases hs : g.ins = h.ins ∧ g.outs.length = h.outs.length
    · obtain ⟨s1, s2⟩ := hs
      obtain ⟨f1, f2, f3, f4, f5, f6, f7⟩ := run_facts (ins := ins) hwg hwh hc s1 s2
      obtain ⟨f7, f8⟩ := f7 hi20
      have hT := fun τ => eq_Trace g h ins τ hwg hwh (by omega) hc s1 s2 (fun h0 => by have := f4 h0; omega) (by omega) (fun x hx => by have := f5 x hx; omega)
      by_cases h0 : (g.Run ins).2 = 0
      · have hlen : (g.Run ins).1.length = (h.Run ins).1.length := by have := f4 h0; omega
        have h0' := f3.1 h0
        have htr : traceS g h ins = (firstNe (g.Run ins).1 (h.Run ins).1 0, 0) := by unfold traceS; rw [if_neg (by simp [h0])]
        rw [htr] at hT
        have hRg := fun τ => A.ref_Run g ins τ hwg (by omega)
        have hRh := fun τ => A.ref_Run h ins τ hwh (by omega)
        rw [h0] at hRg
        rw [h0'] at hRh
        obtain ⟨s, p, q, e, y, hS, hy, hcase⟩ := same_tells g h ins fg fh wg wh hc h0
        have hG := fun τ => A.ref_Init g τ (by have := few_spec fg wg; omega)
        have hH := fun τ => A.ref_Init h τ (by have := few_spec fh wh; omega)
        have hI := fun τ => A.ref_Bools (g.flops.map (·.init)) (h.flops.map (·.init)) τ (by have := few_spec fg wg; rw [List.length_map]; omega)
        rw [hy] at hI
        have hne := ne_at (g.Run ins).1 (h.Run ins).1 0 hlen
        obtain ⟨a, ha⟩ : ∃ a, (g.Run ins).1 = a := ⟨_, rfl⟩
        obtain ⟨b, hb⟩ : ∃ b, (h.Run ins).1 = b := ⟨_, rfl⟩
        rw [ha] at hT hRg hcase hne hlen f5 f7
        rw [hb] at hT hRh hcase hne hlen f6 f8
        obtain ⟨n, hn⟩ : ∃ n, firstNe a b 0 = n := ⟨_, rfl⟩
        rw [hn] at hT hne
        have hcase : e ≠ 0 ∨ (e = 0 ∧ s = false) ∨ (e = 0 ∧ s = true ∧ y = false) ∨ (e = 0 ∧ s = true ∧ y = true ∧ n = -1) := by
          rcases hcase with k | k | k | ⟨k1, k2, k3, k4⟩
          · exact .inl k
          · exact .inr (.inl k)
          · exact .inr (.inr (.inl k))
          · refine .inr (.inr (.inr ⟨k1, k2, k3, ?_⟩))
            rcases hne with k | ⟨k, ka, kb, _, k5, _⟩
            · exact k.1
            · subst k4; exact absurd rfl k5
        have hnr : -1 ≤ n ∧ n < a.length := by
          rcases hne with k | ⟨k, ka, kb, k5, _⟩ <;> omega
        have hrow : ∀ i (h1 : i < a.length) (h2 : i < b.length), (n < 0 ∨ (i : Int) < n) → a[i] = b[i] := by
          intro i h1 h2 h3
          rcases hne with ⟨_, k⟩ | ⟨k, ka, kb, k5, k6, k7⟩
          · subst k; rfl
          · exact k7 i (by omega)
        have hrow' : ∀ i (h1 : i < a.length) (h2 : i < b.length), (i : Int) = n → a[i] ≠ b[i] := by
          intro i h1 h2 h3
          rcases hne with ⟨k, _⟩ | ⟨k, ka, kb, k5, k6, k7⟩
          · omega
          · obtain rfl : i = k := by omega
            exact k6
        have hB := fun i (h1 : i < a.length) (h2 : i < b.length) τ => A.ref_Bools a[i] b[i] τ (by have := f5 a[i] (List.getElem_mem h1); omega)
        obtain ⟨L, hL⟩ : ∃ L, a.length = L := ⟨_, rfl⟩
        have hL' : b.length = L := by omega
        have hnL : ¬ (L : Int) ≤ n := by omega
        have hn1 : ¬ n < -1 := by omega
        have hLL : ((L : Int) != L) = false := by simp
        have hL20 : L ≤ 20 := by omega
        have ft : (false == true) = false := by decide
        have tf : (true == false) = false := by decide
        have tt : (true == true) = true := by decide
        have ff : (false == false) = true := by decide
        have fi : ∀ i, i < L → i < a.length ∧ i < b.length := fun i h => by omega
        clear f1 f2 f3 f4 f5 f6 f7 f8 s1 s2 htr hy h0 h0' hne hn ha hb hnr hlen
        repeat' (first | simp (maxDischargeDepth := 9) -implicitDefEqProofs -dsimp only [go_sem, seval, ge_iff_le, List.length_map, *] | simp (disch := omega) only [wrap64] | ((with_reducible refine Zu ?_ ?_); focus omega) | ((with_reducible apply ACalls.one1); (focus ((first | with_reducible refine law_live _ | with_reducible refine law_few g _ | with_reducible refine law_few h _ | with_reducible refine hR _ | with_reducible refine hT _ | with_reducible refine hRg _ | with_reducible refine hRh _) <;> (first | (simp (maxDischargeDepth := 9) -implicitDefEqProofs -dsimp only [go_sem, seval, *]; done) | omega))); (focus (first | trivial | with_reducible exact rfl | (simp (maxDischargeDepth := 9) -implicitDefEqProofs -dsimp only [go_sem, seval]; done)))))
        refine loop_rule (fun i : Nat => [(14, some (.int .i64 i)), (10, some (.slice (a.map (encRow encBool)) .no)), (8, some (.int .i64 n)), (12, some (.slice (b.map (encRow encBool)) .no)), (3, some (.cptr (aigL g))), (4, some (.cptr (aigL h))), (7, some (.bool true))])
          (fun _ => σ) (fun i => i ≤ L) (fun i => L - i) 0 ?_ ?_
        · (repeat' (first | simp (maxDischargeDepth := 9) -implicitDefEqProofs -dsimp only [go_sem, seval, *] | simp (disch := omega) only [wrap64])) <;> (repeat' refine And.intro ?_ ?_) <;> (first | omega | rfl | assumption | skip)
        · intro i h1
          clear hRg hRh hT hR fg fh fr
          by_cases hlt : i < L
          · have hlt' : (i : Int) < L := by omega
            obtain ⟨hia, hib⟩ := fi i hlt
            have hBi := hB i hia hib
            by_cases hx : 0 ≤ n ∧ n < i
            · obtain ⟨hx1, hx2⟩ := hx
              clear hB hrow hrow' hBi fi
              rcases hcase with h4 | ⟨h4, h5⟩ | ⟨h4, h5, h6⟩ | ⟨h4, h5, h6, h7⟩
              · have hbe : (e != 0) = true := by simpa using h4
                clear h4
                repeat' (first | simp (maxDischargeDepth := 9) -implicitDefEqProofs -dsimp only [go_sem, seval, *] | simp (disch := omega) only [wrap64] | ((with_reducible refine Zu ?_ ?_); focus omega) | ((with_reducible apply ACalls.one1); (focus ((first | with_reducible refine hS _) <;> (first | (simp (maxDischargeDepth := 9) -implicitDefEqProofs -dsimp only [go_sem, seval, *]; done) | omega))); (focus (first | trivial | with_reducible exact rfl | (simp (maxDischargeDepth := 9) -implicitDefEqProofs -dsimp only [go_sem, seval]; done)))) | ((with_reducible apply id_one0); (focus (intro tS hS; ((first | with_reducible refine hS _) <;> (first | (simp (maxDischargeDepth := 9) -implicitDefEqProofs -dsimp only [go_sem, seval, *]; done) | omega | ((with_reducible refine Sub.get hS ?_); simp (maxDischargeDepth := 9) -implicitDefEqProofs -dsimp only [go_sem, seval, *]; done))))); (focus (first | trivial | (simp (maxDischargeDepth := 9) -implicitDefEqProofs -dsimp only [go_sem, seval, *]; done)))))
                refine fin_eq ?_
                (repeat' (first | simp (maxDischargeDepth := 9) -implicitDefEqProofs -dsimp only [go_sem, seval, *] | simp (disch := omega) only [wrap64])) <;> (repeat' refine And.intro ?_ ?_) <;> (first | omega | rfl | assumption | skip)
              · subst h4 h5
                repeat' (first | simp (maxDischargeDepth := 9) -implicitDefEqProofs -dsimp only [go_sem, seval, *] | simp (disch := omega) only [wrap64] | ((with_reducible refine Zu ?_ ?_); focus omega) | ((with_reducible apply ACalls.one1); (focus ((first | with_reducible refine hS _) <;> (first | (simp (maxDischargeDepth := 9) -implicitDefEqProofs -dsimp only [go_sem, seval, *]; done) | omega))); (focus (first | trivial | with_reducible exact rfl | (simp (maxDischargeDepth := 9) -implicitDefEqProofs -dsimp only [go_sem, seval]; done)))) | ((with_reducible apply id_one0); (focus (intro tS hS; ((first | with_reducible refine hS _) <;> (first | (simp (maxDischargeDepth := 9) -implicitDefEqProofs -dsimp only [go_sem, seval, *]; done) | omega | ((with_reducible refine Sub.get hS ?_); simp (maxDischargeDepth := 9) -implicitDefEqProofs -dsimp only [go_sem, seval, *]; done))))); (focus (first | trivial | (simp (maxDischargeDepth := 9) -implicitDefEqProofs -dsimp only [go_sem, seval, *]; done)))))
                refine fin_eq ?_
                (repeat' (first | simp (maxDischargeDepth := 9) -implicitDefEqProofs -dsimp only [go_sem, seval, *] | simp (disch := omega) only [wrap64])) <;> (repeat' refine And.intro ?_ ?_) <;> (first | omega | rfl | assumption | skip)
              · subst h4 h5 h6
                repeat' (first | simp (maxDischargeDepth := 9) -implicitDefEqProofs -dsimp only [go_sem, seval, *] | simp (disch := omega) only [wrap64] | ((with_reducible refine Zu ?_ ?_); focus omega) | ((with_reducible apply ACalls.one1); (focus ((first | with_reducible refine hS _ | with_reducible refine hG _ | with_reducible refine hH _ | with_reducible refine hI _) <;> (first | (simp (maxDischargeDepth := 9) -implicitDefEqProofs -dsimp only [go_sem, seval, *]; done) | omega))); (focus (first | trivial | with_reducible exact rfl | (simp (maxDischargeDepth := 9) -implicitDefEqProofs -dsimp only [go_sem, seval]; done)))) | ((with_reducible apply id_one0); (focus (intro tS hS; ((first | with_reducible refine hS _ | with_reducible refine hG _ | with_reducible refine hH _ | with_reducible refine hI _) <;> (first | (simp (maxDischargeDepth := 9) -implicitDefEqProofs -dsimp only [go_sem, seval, *]; done) | omega | ((with_reducible refine Sub.get hS ?_); simp (maxDischargeDepth := 9) -implicitDefEqProofs -dsimp only [go_sem, seval, *]; done))))); (focus (first | trivial | (simp (maxDischargeDepth := 9) -implicitDefEqProofs -dsimp only [go_sem, seval, *]; done)))))
                refine fin_eq ?_
                (repeat' (first | simp (maxDischargeDepth := 9) -implicitDefEqProofs -dsimp only [go_sem, seval, *] | simp (disch := omega) only [wrap64])) <;> (repeat' refine And.intro ?_ ?_) <;> (first | omega | rfl | assumption | skip)
              · omega
            · by_cases hni : (i : Int) = n
              · have hr := hrow' i hia hib hni
                rw [show decide (a[i] = b[i]) = false by simpa using hr] at hBi
                have hq : ((i : Int) != n) = false := by simpa using hni
                have hq0 : 0 ≤ n := by omega
                have hq1 : ¬ n < i := by omega
                clear hr hB hrow hrow' fi hcase hni hx
                repeat' (first | simp (maxDischargeDepth := 9) -implicitDefEqProofs -dsimp only [go_sem, seval, List.getElem_map, List.length_map, ge_iff_le, gt_iff_lt, encRow, *] | simp (disch := omega) only [wrap64] | ((with_reducible refine Zu ?_ ?_); focus omega) | ((with_reducible apply ACalls.one1); (focus ((first | with_reducible refine hBi _) <;> (first | (simp (maxDischargeDepth := 9) -implicitDefEqProofs -dsimp only [go_sem, seval, *]; done) | omega))); (focus (first | trivial | with_reducible exact rfl | (simp (maxDischargeDepth := 9) -implicitDefEqProofs -dsimp only [go_sem, seval]; done)))) | ((with_reducible apply id_one0); (focus (intro tS hS; ((first | with_reducible refine hBi _) <;> (first | (simp (maxDischargeDepth := 9) -implicitDefEqProofs -dsimp only [go_sem, seval, *]; done) | omega | ((with_reducible refine Sub.get hS ?_); simp (maxDischargeDepth := 9) -implicitDefEqProofs -dsimp only [go_sem, seval, *]; done))))); (focus (first | trivial | (simp (maxDischargeDepth := 9) -implicitDefEqProofs -dsimp only [go_sem, seval, *]; done)))))
                refine loop_next _ _ _ _ (i + 1) ⟨?_, ?_, by omega, by omega⟩
                · (repeat' (first | simp (maxDischargeDepth := 9) -implicitDefEqProofs -dsimp only [go_sem, seval, *] | simp (disch := omega) only [wrap64])) <;> (repeat' refine And.intro ?_ ?_) <;> (first | omega | rfl | assumption | skip)
                · (repeat' (first | simp (maxDischargeDepth := 9) -implicitDefEqProofs -dsimp only [go_sem, seval, *] | simp (disch := omega) only [wrap64])) <;> (repeat' refine And.intro ?_ ?_) <;> (first | omega | rfl | assumption | skip)
              · have hr := hrow i hia hib (by omega)
                rw [show decide (a[i] = b[i]) = true by simpa using hr] at hBi
                have hq : ((i : Int) != n) = true := by simpa using hni
                clear hr hB hrow hrow' fi hcase hni
                by_cases hn0 : 0 ≤ n
                · have hq1 : ¬ n < i := by omega
                  clear hx
                  repeat' (first | simp (maxDischargeDepth := 9) -implicitDefEqProofs -dsimp only [go_sem, seval, List.getElem_map, List.length_map, ge_iff_le, gt_iff_lt, encRow, *] | simp (disch := omega) only [wrap64] | ((with_reducible refine Zu ?_ ?_); focus omega) | ((with_reducible apply ACalls.one1); (focus ((first | with_reducible refine hBi _) <;> (first | (simp (maxDischargeDepth := 9) -implicitDefEqProofs -dsimp only [go_sem, seval, *]; done) | omega))); (focus (first | trivial | with_reducible exact rfl | (simp (maxDischargeDepth := 9) -implicitDefEqProofs -dsimp only [go_sem, seval]; done)))) | ((with_reducible apply id_one0); (focus (intro tS hS; ((first | with_reducible refine hBi _) <;> (first | (simp (maxDischargeDepth := 9) -implicitDefEqProofs -dsimp only [go_sem, seval, *]; done) | omega | ((with_reducible refine Sub.get hS ?_); simp (maxDischargeDepth := 9) -implicitDefEqProofs -dsimp only [go_sem, seval, *]; done))))); (focus (first | trivial | (simp (maxDischargeDepth := 9) -implicitDefEqProofs -dsimp only [go_sem, seval, *]; done)))))
                  refine loop_next _ _ _ _ (i + 1) ⟨?_, ?_, by omega, by omega⟩
                  · (repeat' (first | simp (maxDischargeDepth := 9) -implicitDefEqProofs -dsimp only [go_sem, seval, *] | simp (disch := omega) only [wrap64])) <;> (repeat' refine And.intro ?_ ?_) <;> (first | omega | rfl | assumption | skip)
                  · (repeat' (first | simp (maxDischargeDepth := 9) -implicitDefEqProofs -dsimp only [go_sem, seval, *] | simp (disch := omega) only [wrap64])) <;> (repeat' refine And.intro ?_ ?_) <;> (first | omega | rfl | assumption | skip)
                · clear hx
                  repeat' (first | simp (maxDischargeDepth := 9) -implicitDefEqProofs -dsimp only [go_sem, seval, List.getElem_map, List.length_map, ge_iff_le, gt_iff_lt, encRow, *] | simp (disch := omega) only [wrap64] | ((with_reducible refine Zu ?_ ?_); focus omega) | ((with_reducible apply ACalls.one1); (focus ((first | with_reducible refine hBi _) <;> (first | (simp (maxDischargeDepth := 9) -implicitDefEqProofs -dsimp only [go_sem, seval, *]; done) | omega))); (focus (first | trivial | with_reducible exact rfl | (simp (maxDischargeDepth := 9) -implicitDefEqProofs -dsimp only [go_sem, seval]; done)))) | ((with_reducible apply id_one0); (focus (intro tS hS; ((first | with_reducible refine hBi _) <;> (first | (simp (maxDischargeDepth := 9) -implicitDefEqProofs -dsimp only [go_sem, seval, *]; done) | omega | ((with_reducible refine Sub.get hS ?_); simp (maxDischargeDepth := 9) -implicitDefEqProofs -dsimp only [go_sem, seval, *]; done))))); (focus (first | trivial | (simp (maxDischargeDepth := 9) -implicitDefEqProofs -dsimp only [go_sem, seval, *]; done)))))
                  refine loop_next _ _ _ _ (i + 1) ⟨?_, ?_, by omega, by omega⟩
                  · (repeat' (first | simp (maxDischargeDepth := 9) -implicitDefEqProofs -dsimp only [go_sem, seval, *] | simp (disch := omega) only [wrap64])) <;> (repeat' refine And.intro ?_ ?_) <;> (first | omega | rfl | assumption | skip)
                  · (repeat' (first | simp (maxDischargeDepth := 9) -implicitDefEqProofs -dsimp only [go_sem, seval, *] | simp (disch := omega) only [wrap64])) <;> (repeat' refine And.intro ?_ ?_) <;> (first | omega | rfl | assumption | skip)
          · have hlt' : ¬ (i : Int) < L := by omega
            clear hB hrow hrow' fi
            rcases hcase with h4 | ⟨h4, h5⟩ | ⟨h4, h5, h6⟩ | ⟨h4, h5, h6, h7⟩
            · have hbe : (e != 0) = true := by simpa using h4
              clear h4
              repeat' (first | simp (maxDischargeDepth := 9) -implicitDefEqProofs -dsimp only [go_sem, seval, *] | simp (disch := omega) only [wrap64] | ((with_reducible refine Zu ?_ ?_); focus omega) | ((with_reducible apply ACalls.one1); (focus ((first | with_reducible refine hS _) <;> (first | (simp (maxDischargeDepth := 9) -implicitDefEqProofs -dsimp only [go_sem, seval, *]; done) | omega))); (focus (first | trivial | with_reducible exact rfl | (simp (maxDischargeDepth := 9) -implicitDefEqProofs -dsimp only [go_sem, seval]; done)))) | ((with_reducible apply id_one0); (focus (intro tS hS; ((first | with_reducible refine hS _) <;> (first | (simp (maxDischargeDepth := 9) -implicitDefEqProofs -dsimp only [go_sem, seval, *]; done) | omega | ((with_reducible refine Sub.get hS ?_); simp (maxDischargeDepth := 9) -implicitDefEqProofs -dsimp only [go_sem, seval, *]; done))))); (focus (first | trivial | (simp (maxDischargeDepth := 9) -implicitDefEqProofs -dsimp only [go_sem, seval, *]; done)))))
              refine fin_eq ?_
              (repeat' (first | simp (maxDischargeDepth := 9) -implicitDefEqProofs -dsimp only [go_sem, seval, *] | simp (disch := omega) only [wrap64])) <;> (repeat' refine And.intro ?_ ?_) <;> (first | omega | rfl | assumption | skip)
            · subst h4 h5
              repeat' (first | simp (maxDischargeDepth := 9) -implicitDefEqProofs -dsimp only [go_sem, seval, *] | simp (disch := omega) only [wrap64] | ((with_reducible refine Zu ?_ ?_); focus omega) | ((with_reducible apply ACalls.one1); (focus ((first | with_reducible refine hS _) <;> (first | (simp (maxDischargeDepth := 9) -implicitDefEqProofs -dsimp only [go_sem, seval, *]; done) | omega))); (focus (first | trivial | with_reducible exact rfl | (simp (maxDischargeDepth := 9) -implicitDefEqProofs -dsimp only [go_sem, seval]; done)))) | ((with_reducible apply id_one0); (focus (intro tS hS; ((first | with_reducible refine hS _) <;> (first | (simp (maxDischargeDepth := 9) -implicitDefEqProofs -dsimp only [go_sem, seval, *]; done) | omega | ((with_reducible refine Sub.get hS ?_); simp (maxDischargeDepth := 9) -implicitDefEqProofs -dsimp only [go_sem, seval, *]; done))))); (focus (first | trivial | (simp (maxDischargeDepth := 9) -implicitDefEqProofs -dsimp only [go_sem, seval, *]; done)))))
              refine fin_eq ?_
              (repeat' (first | simp (maxDischargeDepth := 9) -implicitDefEqProofs -dsimp only [go_sem, seval, *] | simp (disch := omega) only [wrap64])) <;> (repeat' refine And.intro ?_ ?_) <;> (first | omega | rfl | assumption | skip)
            · subst h4 h5 h6
              repeat' (first | simp (maxDischargeDepth := 9) -implicitDefEqProofs -dsimp only [go_sem, seval, *] | simp (disch := omega) only [wrap64] | ((with_reducible refine Zu ?_ ?_); focus omega) | ((with_reducible apply ACalls.one1); (focus ((first | with_reducible refine hS _ | with_reducible refine hG _ | with_reducible refine hH _ | with_reducible refine hI _) <;> (first | (simp (maxDischargeDepth := 9) -implicitDefEqProofs -dsimp only [go_sem, seval, *]; done) | omega))); (focus (first | trivial | with_reducible exact rfl | (simp (maxDischargeDepth := 9) -implicitDefEqProofs -dsimp only [go_sem, seval]; done)))) | ((with_reducible apply id_one0); (focus (intro tS hS; ((first | with_reducible refine hS _ | with_reducible refine hG _ | with_reducible refine hH _ | with_reducible refine hI _) <;> (first | (simp (maxDischargeDepth := 9) -implicitDefEqProofs -dsimp only [go_sem, seval, *]; done) | omega | ((with_reducible refine Sub.get hS ?_); simp (maxDischargeDepth := 9) -implicitDefEqProofs -dsimp only [go_sem, seval, *]; done))))); (focus (first | trivial | (simp (maxDischargeDepth := 9) -implicitDefEqProofs -dsimp only [go_sem, seval, *]; done)))))
              refine fin_eq ?_
              (repeat' (first | simp (maxDischargeDepth := 9) -implicitDefEqProofs -dsimp only [go_sem, seval, *] | simp (disch := omega) only [wrap64])) <;> (repeat' refine And.intro ?_ ?_) <;> (first | omega | rfl | assumption | skip)
            · subst h4 h5 h6 h7
              repeat' (first | simp (maxDischargeDepth := 9) -implicitDefEqProofs -dsimp only [go_sem, seval, *] | simp (disch := omega) only [wrap64] | ((with_reducible refine Zu ?_ ?_); focus omega) | ((with_reducible apply ACalls.one1); (focus ((first | with_reducible refine hS _ | with_reducible refine hG _ | with_reducible refine hH _ | with_reducible refine hI _) <;> (first | (simp (maxDischargeDepth := 9) -implicitDefEqProofs -dsimp only [go_sem, seval, *]; done) | omega))); (focus (first | trivial | with_reducible exact rfl | (simp (maxDischargeDepth := 9) -implicitDefEqProofs -dsimp only [go_sem, seval]; done)))) | ((with_reducible apply id_one0); (focus (intro tS hS; ((first | with_reducible refine hS _ | with_reducible refine hG _ | with_reducible refine hH _ | with_reducible refine hI _) <;> (first | (simp (maxDischargeDepth := 9) -implicitDefEqProofs -dsimp only [go_sem, seval, *]; done) | omega | ((with_reducible refine Sub.get hS ?_); simp (maxDischargeDepth := 9) -implicitDefEqProofs -dsimp only [go_sem, seval, *]; done))))); (focus (first | trivial | (simp (maxDischargeDepth := 9) -implicitDefEqProofs -dsimp only [go_sem, seval, *]; done)))))
              refine fin_eq ?_
              (repeat' (first | simp (maxDischargeDepth := 9) -implicitDefEqProofs -dsimp only [go_sem, seval, *] | simp (disch := omega) only [wrap64])) <;> (repeat' refine And.intro ?_ ?_) <;> (first | omega | rfl | assumption | skip)
      · have htr : traceS g h ins = (0, (g.Run ins).2) := by unfold traceS; rw [if_pos h0]
        rw [htr] at hT
        obtain ⟨e, he⟩ : ∃ e, (g.Run ins).2 = e := ⟨_, rfl⟩
        rw [he] at hT h0
        have hb : (e != 0) = true := by simpa using h0
        clear f1 f2 f3 f4 f5 f6 f7 f8 s1 s2 htr he
        repeat' (first | simp (maxDischargeDepth := 9) -implicitDefEqProofs -dsimp only [go_sem, seval, *] | simp (disch := omega) only [wrap64] | ((with_reducible refine Zu ?_ ?_); focus omega) | ((with_reducible apply ACalls.one1); (focus ((first | with_reducible refine law_live _ | with_reducible refine law_few g _ | with_reducible refine law_few h _ | with_reducible refine hR _ | with_reducible refine hT _) <;> (first | (simp (maxDischargeDepth := 9) -implicitDefEqProofs -dsimp only [go_sem, seval, *]; done) | omega))); (focus (first | trivial | with_reducible exact rfl | (simp (maxDischargeDepth := 9) -implicitDefEqProofs -dsimp only [go_sem, seval]; done)))))
        refine fin_eq ?_
        (repeat' (first | simp (maxDischargeDepth := 9) -implicitDefEqProofs -dsimp only [go_sem, seval, *] | simp (disch := omega) only [wrap64])) <;> (repeat' refine And.intro ?_ ?_) <;> (first | omega | rfl | assumption | skip)
    · repeat' (first | simp (maxDischargeDepth := 9) -implicitDefEqProofs -dsimp only [go_sem, seval, *] | simp (disch := omega) only [wrap64] | ((with_reducible refine Zu ?_ ?_); focus omega) | ((with_reducible apply ACalls.one1); (focus ((first | with_reducible refine law_live _ | with_reducible refine law_few g _ | with_reducible refine law_few h _ | with_reducible refine hR _ | with_reducible refine eq_Trace_arg g h (.slice (ins.map (encRow encBool)) .no) hwg hwh hc hs _) <;> (first | (simp (maxDischargeDepth := 9) -implicitDefEqProofs -dsimp only [go_sem, seval, *]; done) | omega))); (focus (first | trivial | with_reducible exact rfl | (simp (maxDischargeDepth := 9) -implicitDefEqProofs -dsimp only [go_sem, seval]; done)))))
      refine fin_eq ?_
      (repeat' (first | simp (maxDischargeDepth := 9) -implicitDefEqProofs -dsimp only [go_sem, seval, *] | simp (disch := omega) only [wrap64])) <;> (repeat' refine And.intro ?_ ?_) <;> (first | omega | rfl | assumption | skip)
  · obtain ⟨e, he⟩ : ∃ e, chk2 g h = e := ⟨_, rfl⟩
    rw [he] at hc
    have hb : (e != 0) = true := by simpa using hc
    repeat' (first | simp (maxDischargeDepth := 9) -implicitDefEqProofs -dsimp only [go_sem, seval, *] | simp (disch := omega) only [wrap64] | ((with_reducible refine Zu ?_ ?_); focus omega) | ((with_reducible apply ACalls.one1); (focus ((first | with_reducible refine law_live _ | with_reducible refine law_few g _ | with_reducible refine law_few h _ | with_reducible refine hR _ | with_reducible refine eq_Trace_err g h (.slice (ins.map (encRow encBool)) .no) e hwg hwh he hc _) <;> (first | (simp (maxDischargeDepth := 9) -implicitDefEqProofs -dsimp only [go_sem, seval, *]; done) | omega))); (focus (first | trivial | with_reducible exact rfl | (simp (maxDischargeDepth := 9) -implicitDefEqProofs -dsimp only [go_sem, seval]; done)))))
    refine fin_eq ?_
    (repeat' (first | simp (maxDischargeDepth := 9) -implicitDefEqProofs -dsimp only [go_sem, seval, *] | simp (disch := omega) only [wrap64])) <;> (repeat' refine And.intro ?_ ?_) <;> (first | omega | rfl | assumption | skip)
end Go.Proofs.Ytjichkelfhcbcaa

