/- bdd: plain models: diagrams, tables, what is put. No program in sight. -/
import Derived.Test.YtjichkelfhcbcaaAbsU
import Derived.Test.YtjichkelfhcbcaaEqvAigT
set_option linter.unusedSimpArgs false
set_option linter.unusedVariables false
namespace Go.Proofs.Ytjichkelfhcbcaa.A
open Abs Fil
theorem ref_and (g : Aig) (p q : Int) (σ : Sig) (hf : Fine g) (hp : g.lit p = true) (hq : g.lit q = true) :
    ACalls Try.prog 85 [encAig g, .int .i64 p, .int .i64 q] σ (fun r σ' => r = .ret (.tup [encAig (Aig.endW (g.andW 0 p q)).1, .int .i64 (Aig.endW (g.andW 0 p q)).2.1, .int .i64 (Aig.endW (g.andW 0 p q)).2.2]) ∧ σ' = σ) := by
  refine calls_x mixed Try.func85 b85 n85 rfl q85 (by simp) ?_; unfold c85 r85; try dsimp only [Yi, Yj]
  have hs := hf.toSmall
  have hcn := hf.cnt
  have hlo := hf.lo
  have hhi := hf.hi
  have hfl := hs.flops
  have hal := hs.ands
  have hp' := litN_iff.1 hp
  have hq' := litN_iff.1 hq
  have hcd : g.ins + g.flops.length + g.ands.length ≤ 65536 := hcn
  have hc0 : 0 ≤ g.count := by unfold Aig.count; omega
  have hfb := idxF_bounds (fun x : Int × Int => decide (min x.1 x.2 = min p q) && decide (max x.1 x.2 = max p q)) g.ands
  have hfe : g.find (min p q) (max p q) = idxF (fun x : Int × Int => decide (min x.1 x.2 = min p q) && decide (max x.1 x.2 = max p q)) g.ands := rfl
  rw [← hfe] at hfb
  by_cases c1 : min p q = 0 ∨ min p q = turn (max p q)
  · rw [andW1 c1]
    clear hfe hcd
    repeat' (first | simp (maxDischargeDepth := 9) -implicitDefEqProofs -dsimp only [go_sem, seval, *] | simp (disch := omega) only [wrap64, xor_is1] | (with_reducible (first | apply Zc | apply Ze | apply Zl | apply Zs) <;> intro hq) | ((with_reducible refine Zv ?_ ?_); focus (first | omega | exact rfl)) | ((with_reducible refine Zt (fun oF hoF hnF hnF' => ?_)); (try simp only [upd_none, ne_eq, not_and] at hoF)))
    all_goals first | (exfalso; omega) | (refine fin_eq ?_; (repeat' (first | simp (maxDischargeDepth := 9) -implicitDefEqProofs -dsimp only [go_sem, seval, Aig.endW, *] | simp (disch := omega) only [wrap64, xor_is1])) <;> (repeat' refine And.intro ?_ ?_) <;> (first | omega | rfl | assumption | skip); done)
  by_cases c2 : min p q = 1 ∨ min p q = max p q
  · rw [andW2 c1 c2]
    clear hfe hcd
    repeat' (first | simp (maxDischargeDepth := 9) -implicitDefEqProofs -dsimp only [go_sem, seval, *] | simp (disch := omega) only [wrap64, xor_is1] | (with_reducible (first | apply Zc | apply Ze | apply Zl | apply Zs) <;> intro hq) | ((with_reducible refine Zv ?_ ?_); focus (first | omega | exact rfl)) | ((with_reducible refine Zt (fun oF hoF hnF hnF' => ?_)); (try simp only [upd_none, ne_eq, not_and] at hoF)))
    all_goals first | (exfalso; omega) | (refine fin_eq ?_; (repeat' (first | simp (maxDischargeDepth := 9) -implicitDefEqProofs -dsimp only [go_sem, seval, Aig.endW, *] | simp (disch := omega) only [wrap64, xor_is1])) <;> (repeat' refine And.intro ?_ ?_) <;> (first | omega | rfl | assumption | skip); done)
  by_cases c3 : 0 ≤ g.find (min p q) (max p q)
  · rw [andW3 c1 c2 c3]
    clear hfe hcd
    repeat' (first | simp (maxDischargeDepth := 9) -implicitDefEqProofs -dsimp only [go_sem, seval, ge_iff_le, *] | simp (disch := omega) only [wrap64, xor_is1] | (with_reducible (first | apply Zc | apply Ze | apply Zl | apply Zs) <;> intro hq) | ((with_reducible refine Zv ?_ ?_); focus (first | omega | exact rfl)) | ((with_reducible refine Zt (fun oF hoF hnF hnF' => ?_)); (try simp only [upd_none, ne_eq, not_and] at hoF)) | ((with_reducible apply ACalls.one1); (focus ((first | with_reducible refine ref_gate g (min p q) (max p q) _ hal ?_ | with_reducible refine ACalls.flA (ref_gate g (min p q) (max p q) _ hal ?_) ?_) <;> (first | (simp (maxDischargeDepth := 9) -implicitDefEqProofs -dsimp only [go_sem, seval, *]; done) | omega))); (focus (first | trivial | with_reducible exact rfl | (simp (maxDischargeDepth := 9) -implicitDefEqProofs -dsimp only [go_sem, seval]; done)))))
    all_goals first | (exfalso; omega) | skip
    refine fin_eq ?_
    (repeat' (first | simp (maxDischargeDepth := 9) -implicitDefEqProofs -dsimp only [go_sem, seval, Aig.endW, Aig.first, *] | simp (disch := omega) only [wrap64, xor_is1])) <;> (repeat' refine And.intro ?_ ?_) <;> (first | omega | rfl | assumption | skip)
  by_cases c4 : g.count = 65536
  · rw [andW4 c1 c2 c3 c4]
    have c4' : g.ins + g.flops.length + g.ands.length = 65536 := c4
    clear hfe hcd
    repeat' (first | simp (maxDischargeDepth := 9) -implicitDefEqProofs -dsimp only [go_sem, seval, ge_iff_le, *] | simp (disch := omega) only [wrap64, xor_is1] | (with_reducible (first | apply Zc | apply Ze | apply Zl | apply Zs) <;> intro hq) | ((with_reducible refine Zv ?_ ?_); focus (first | omega | exact rfl)) | ((with_reducible refine Zt (fun oF hoF hnF hnF' => ?_)); (try simp only [upd_none, ne_eq, not_and] at hoF)) | ((with_reducible apply ACalls.one1); (focus ((first | with_reducible refine ref_gate g (min p q) (max p q) _ hal ?_ | with_reducible refine ACalls.flA (ref_gate g (min p q) (max p q) _ hal ?_) ?_) <;> (first | (simp (maxDischargeDepth := 9) -implicitDefEqProofs -dsimp only [go_sem, seval, *]; done) | omega))); (focus (first | trivial | with_reducible exact rfl | (simp (maxDischargeDepth := 9) -implicitDefEqProofs -dsimp only [go_sem, seval]; done)))))
    all_goals first | (exfalso; omega) | (refine fin_eq ?_; (repeat' (first | simp (maxDischargeDepth := 9) -implicitDefEqProofs -dsimp only [go_sem, seval, Aig.endW, *] | simp (disch := omega) only [wrap64, xor_is1])) <;> (repeat' refine And.intro ?_ ?_) <;> (first | omega | rfl | assumption | skip); done)
  · rw [andW5 c1 c2 c3 c4]
    have c4' : g.ins + g.flops.length + g.ands.length < 65536 := by unfold Aig.count at c4; omega
    have hsm := (andO_some hf hp hq (g' := { g with ands := g.ands ++ [(min p q, max p q)] }) (x := 2 * (g.count + 1)) (by simp only [Aig.andO, c1, c2, c3, c4, if_false])).1.toSmall
    have hcp := count_push (g := g) (min p q, max p q)
    clear hfe hcd
    repeat' (first | simp (maxDischargeDepth := 9) -implicitDefEqProofs -dsimp only [go_sem, seval, ge_iff_le, *] | simp (disch := omega) only [wrap64, xor_is1] | (with_reducible (first | apply Zc | apply Ze | apply Zl | apply Zs) <;> intro hq) | ((with_reducible refine Zv ?_ ?_); focus (first | omega | exact rfl)) | ((with_reducible refine Zt (fun oF hoF hnF hnF' => ?_)); (try simp only [upd_none, ne_eq, not_and] at hoF)) | ((with_reducible apply ACalls.one1); (focus ((first | with_reducible refine ref_gate g (min p q) (max p q) _ hal ?_ | with_reducible refine ref_Count { g with ands := g.ands ++ [(min p q, max p q)] } _ hsm | with_reducible refine ACalls.flA (ref_gate g (min p q) (max p q) _ hal ?_) ?_ | with_reducible refine ACalls.flA (ref_Count { g with ands := g.ands ++ [(min p q, max p q)] } _ hsm) ?_) <;> (first | (simp (maxDischargeDepth := 9) -implicitDefEqProofs -dsimp only [go_sem, seval, *]; done) | omega))); (focus (first | trivial | with_reducible exact rfl | (simp (maxDischargeDepth := 9) -implicitDefEqProofs -dsimp only [go_sem, seval]; done)))) | ((with_reducible apply id_one0); (focus (intro tS hS; ((first | with_reducible refine ref_gate g (min p q) (max p q) _ hal ?_ | with_reducible refine ref_Count { g with ands := g.ands ++ [(min p q, max p q)] } _ hsm | with_reducible refine ACalls.flA (ref_gate g (min p q) (max p q) _ hal ?_) ?_ | with_reducible refine ACalls.flA (ref_Count { g with ands := g.ands ++ [(min p q, max p q)] } _ hsm) ?_) <;> (first | (simp (maxDischargeDepth := 9) -implicitDefEqProofs -dsimp only [go_sem, seval, *]; done) | omega | ((with_reducible refine Sub.get hS ?_); simp (maxDischargeDepth := 9) -implicitDefEqProofs -dsimp only [go_sem, seval, *]; done))))); (focus (first | trivial | (simp (maxDischargeDepth := 9) -implicitDefEqProofs -dsimp only [go_sem, seval, *]; done)))))
    all_goals first | (exfalso; omega) | skip
    all_goals
      refine fin_eq ?_
      (repeat' (first | simp (maxDischargeDepth := 9) -implicitDefEqProofs -dsimp only [go_sem, seval, Aig.endW, *] | simp (disch := omega) only [wrap64, xor_is1])) <;> (repeat' refine And.intro ?_ ?_) <;> (first | omega | rfl | assumption | skip)
theorem ref_or (g : Aig) (a b : Int) (σ : Sig) (hf : Fine g) (ha : g.lit a = true) (hb : g.lit b = true) :
    ACalls Try.prog 109 [encAig g, .int .i64 a, .int .i64 b] σ (fun r σ' => r = .ret (.tup [encAig (Aig.endW (g.orW 0 a b)).1, .int .i64 (Aig.endW (g.orW 0 a b)).2.1, .int .i64 (Aig.endW (g.orW 0 a b)).2.2]) ∧ σ' = σ) := by
  refine calls_x mixed Try.func109 b109 n109 rfl q109 (by simp) ?_; unfold c109 r109; try dsimp only [Yi, Yj]
  have hcn := hf.cnt
  have ha' := litN_iff.1 ha
  have hb' := litN_iff.1 hb
  have hr := andW_range (g := g) (e := 0) (p := turn a) (q := turn b) (fun _ => ⟨hf, turn_lit ha, turn_lit hb⟩)
  obtain ⟨hr1, hr2⟩ := hr
  have ta : g.lit (turn a) = true := turn_lit ha
  have tb : g.lit (turn b) = true := turn_lit hb
  by_cases he : (g.andW 0 (turn a) (turn b)).2.1 = 0
  · have e1 := endW_ok he
    have e2 := endW_or (g := g) (a := a) (b := b) he
    repeat' (first | simp (maxDischargeDepth := 9) -implicitDefEqProofs -dsimp only [go_sem, seval, *] | simp (disch := omega) only [xor1] | ((with_reducible refine Zt (fun oF hoF hnF hnF' => ?_)); (try simp only [upd_none, ne_eq, not_and] at hoF)) | ((with_reducible apply ACalls.one1); (focus ((first | with_reducible refine ref_and g (turn a) (turn b) _ hf ta tb) <;> (first | (simp (maxDischargeDepth := 9) -implicitDefEqProofs -dsimp only [go_sem, seval, *]; done) | omega))); (focus (first | trivial | with_reducible exact rfl | (simp (maxDischargeDepth := 9) -implicitDefEqProofs -dsimp only [go_sem, seval]; done)))))
    refine fin_eq ?_
    (repeat' (first | simp (maxDischargeDepth := 9) -implicitDefEqProofs -dsimp only [go_sem, seval, *] | simp (disch := omega) only [xor1])) <;> (repeat' refine And.intro ?_ ?_) <;> (first | omega | rfl | assumption | skip)
  · have e1 := endW_err he
    have e2 := endW_or' (g := g) (a := a) (b := b) he
    have hb : ((g.andW 0 (turn a) (turn b)).2.1 != 0) = true := by simpa using he
    repeat' (first | simp (maxDischargeDepth := 9) -implicitDefEqProofs -dsimp only [go_sem, seval, *] | simp (disch := omega) only [xor1] | ((with_reducible refine Zt (fun oF hoF hnF hnF' => ?_)); (try simp only [upd_none, ne_eq, not_and] at hoF)) | ((with_reducible apply ACalls.one1); (focus ((first | with_reducible refine ref_and g (turn a) (turn b) _ hf ta tb) <;> (first | (simp (maxDischargeDepth := 9) -implicitDefEqProofs -dsimp only [go_sem, seval, *]; done) | omega))); (focus (first | trivial | with_reducible exact rfl | (simp (maxDischargeDepth := 9) -implicitDefEqProofs -dsimp only [go_sem, seval]; done)))))
    refine fin_eq ?_
    (repeat' (first | simp (maxDischargeDepth := 9) -implicitDefEqProofs -dsimp only [go_sem, seval, *] | simp (disch := omega) only [xor1])) <;> (repeat' refine And.intro ?_ ?_) <;> (first | omega | rfl | assumption | skip)
theorem ref_pairs (g : Aig) (a b c d : Int) (σ : Sig) (hf : Fine g) (ha : g.lit a = true) (hb : g.lit b = true) (hc : g.lit c = true) (hd : g.lit d = true) :
    ACalls Try.prog 108 [encAig g, .int .i64 a, .int .i64 b, .int .i64 c, .int .i64 d] σ (fun r σ' => r = .ret (.tup [encAig (Aig.endW (g.pairs 0 a b c d)).1, .int .i64 (Aig.endW (g.pairs 0 a b c d)).2.1, .int .i64 (Aig.endW (g.pairs 0 a b c d)).2.2]) ∧ σ' = σ) := by
  refine calls_x mixed Try.func108 b108 n108 rfl q108 (by simp) ?_; unfold c108 r108; try dsimp only [Yi, Yj]
  obtain ⟨k1, k2, _⟩ := andW_ok (g := g) (e := 0) (p := a) (q := b) (fun _ => ⟨hf, ha, hb⟩)
  obtain ⟨r, hr⟩ : ∃ r, g.andW 0 a b = r := ⟨_, rfl⟩
  rw [hr] at k1 k2
  by_cases he : r.2.1 = 0
  · have e1 := endW_ok he
    have hfr := (k1 he).1
    have lc := k2.lit hc
    have ld := k2.lit hd
    obtain ⟨m1, m2, _⟩ := andW_ok (g := r.1) (e := 0) (p := c) (q := d) (fun _ => ⟨hfr, lc, ld⟩)
    obtain ⟨s, hs⟩ : ∃ s, r.1.andW 0 c d = s := ⟨_, rfl⟩
    rw [hs] at m1 m2
    have hp : g.pairs 0 a b c d = s.1.orW s.2.1 r.2.2 s.2.2 := by simp only [Aig.pairs, hr, he, hs]
    by_cases he2 : s.2.1 = 0
    · have e2 := endW_ok he2
      have hfs := (m1 he2).1
      have l1 := m2.lit (k1 he).2
      have l2 := (m1 he2).2
      have ez : ((0 : Int) != 0) = false := by decide
      repeat' (first | simp (maxDischargeDepth := 9) -implicitDefEqProofs -dsimp only [go_sem, seval, *] | ((with_reducible refine Zt (fun oF hoF hnF hnF' => ?_)); (try simp only [upd_none, ne_eq, not_and] at hoF)) | ((with_reducible apply ACalls.one1); (focus ((first | with_reducible refine ref_and g a b _ hf ha hb | with_reducible refine ref_and r.1 c d _ hfr lc ld | with_reducible refine ref_or s.1 r.2.2 s.2.2 _ hfs l1 l2) <;> (first | (simp (maxDischargeDepth := 9) -implicitDefEqProofs -dsimp only [go_sem, seval, *]; done) | omega))); (focus (first | trivial | with_reducible exact rfl | (simp (maxDischargeDepth := 9) -implicitDefEqProofs -dsimp only [go_sem, seval]; done)))))
      refine fin_eq ?_
      (repeat' (first | simp (maxDischargeDepth := 9) -implicitDefEqProofs -dsimp only [go_sem, seval, *])) <;> (repeat' refine And.intro ?_ ?_) <;> (first | omega | rfl | assumption | skip)
    · have e2 := endW_err he2
      have hp2 : Aig.endW (s.1.orW s.2.1 r.2.2 s.2.2) = (⟨0, [], [], []⟩, 0, s.2.1) := by
        have h' : s.1.orW s.2.1 r.2.2 s.2.2 = (s.1, s.2.1, turn 0) := by simp only [Aig.orW, andW_none he2]
        rw [h']; exact endW_err he2
      have hb2 : (s.2.1 != 0) = true := by simpa using he2
      have ez : ((0 : Int) != 0) = false := by decide
      repeat' (first | simp (maxDischargeDepth := 9) -implicitDefEqProofs -dsimp only [go_sem, seval, *] | ((with_reducible refine Zt (fun oF hoF hnF hnF' => ?_)); (try simp only [upd_none, ne_eq, not_and] at hoF)) | ((with_reducible apply ACalls.one1); (focus ((first | with_reducible refine ref_and g a b _ hf ha hb | with_reducible refine ref_and r.1 c d _ hfr lc ld) <;> (first | (simp (maxDischargeDepth := 9) -implicitDefEqProofs -dsimp only [go_sem, seval, *]; done) | omega))); (focus (first | trivial | with_reducible exact rfl | (simp (maxDischargeDepth := 9) -implicitDefEqProofs -dsimp only [go_sem, seval]; done)))))
      refine fin_eq ?_
      (repeat' (first | simp (maxDischargeDepth := 9) -implicitDefEqProofs -dsimp only [go_sem, seval, *])) <;> (repeat' refine And.intro ?_ ?_) <;> (first | omega | rfl | assumption | skip)
  · have e1 := endW_err he
    have hp : Aig.endW (g.pairs 0 a b c d) = (⟨0, [], [], []⟩, 0, r.2.1) := by
      have : g.pairs 0 a b c d = (r.1, r.2.1, turn 0) := by
        simp only [Aig.pairs, hr, andW_none he, Aig.orW]
      rw [this]
      exact endW_err he
    have hb2 : (r.2.1 != 0) = true := by simpa using he
    repeat' (first | simp (maxDischargeDepth := 9) -implicitDefEqProofs -dsimp only [go_sem, seval, *] | ((with_reducible refine Zt (fun oF hoF hnF hnF' => ?_)); (try simp only [upd_none, ne_eq, not_and] at hoF)) | ((with_reducible apply ACalls.one1); (focus ((first | with_reducible refine ref_and g a b _ hf ha hb) <;> (first | (simp (maxDischargeDepth := 9) -implicitDefEqProofs -dsimp only [go_sem, seval, *]; done) | omega))); (focus (first | trivial | with_reducible exact rfl | (simp (maxDischargeDepth := 9) -implicitDefEqProofs -dsimp only [go_sem, seval]; done)))))
    refine fin_eq ?_
    (repeat' (first | simp (maxDischargeDepth := 9) -implicitDefEqProofs -dsimp only [go_sem, seval, *])) <;> (repeat' refine And.intro ?_ ?_) <;> (first | omega | rfl | assumption | skip)
theorem ref_And (g : Aig) (a b : Int) (σ : Sig) (hs : Wf g) :
    ACalls Try.prog 56 [encAig g, .int .i64 a, .int .i64 b] σ (fun r σ' => r = .ret (.tup [encAig (g.And a b).1, .int .i64 (g.And a b).2.1, .int .i64 (g.And a b).2.2]) ∧ σ' = σ) := by
  refine calls_x mixed Try.func56 b56 n56 rfl q56 (by simp) ?_; unfold c56 r56; try dsimp only [Yi, Yj]
  obtain ⟨e, he⟩ : ∃ e, g.checkL g.check [a, b] = e := ⟨_, rfl⟩
  have hd : g.And a b = Aig.endW (g.andW e a b) := by rw [← he]; rfl
  by_cases h0 : e = 0
  · subst h0
    obtain ⟨hf, hl⟩ := checkL_fine hs he
    have ha := hl a (by simp)
    have hb := hl b (by simp)
    have ez : ((0 : Int) != 0) = false := by decide
    clear hl
    repeat' (first | simp (maxDischargeDepth := 9) -implicitDefEqProofs -dsimp only [go_sem, seval, *] | ((with_reducible refine Zt (fun oF hoF hnF hnF' => ?_)); (try simp only [upd_none, ne_eq, not_and] at hoF)) | ((with_reducible apply ACalls.one1); (focus ((first | with_reducible refine ref_may g [a, b] _ hs ?_ | with_reducible refine ref_and g a b _ hf ha hb | with_reducible refine ACalls.flA (ref_may g [a, b] _ hs ?_) ?_ | with_reducible refine ACalls.flA (ref_and g a b _ hf ha hb) ?_) <;> (first | (simp (maxDischargeDepth := 9) -implicitDefEqProofs -dsimp only [go_sem, seval, *]; done) | omega))); (focus (first | trivial | with_reducible exact rfl | (simp (maxDischargeDepth := 9) -implicitDefEqProofs -dsimp only [go_sem, seval]; done)))))
    refine fin_eq ?_
    (repeat' (first | simp (maxDischargeDepth := 9) -implicitDefEqProofs -dsimp only [go_sem, seval, *])) <;> (repeat' refine And.intro ?_ ?_) <;> (first | omega | rfl | assumption | skip)
  · have hv : Aig.endW (g.andW e a b) = (⟨0, [], [], []⟩, 0, e) := by rw [andW_none h0]; exact endW_err h0
    have hb2 : (e != 0) = true := by simpa using h0
    repeat' (first | simp (maxDischargeDepth := 9) -implicitDefEqProofs -dsimp only [go_sem, seval, *] | ((with_reducible refine Zt (fun oF hoF hnF hnF' => ?_)); (try simp only [upd_none, ne_eq, not_and] at hoF)) | ((with_reducible apply ACalls.one1); (focus ((first | with_reducible refine ref_may g [a, b] _ hs ?_ | with_reducible refine ACalls.flA (ref_may g [a, b] _ hs ?_) ?_) <;> (first | (simp (maxDischargeDepth := 9) -implicitDefEqProofs -dsimp only [go_sem, seval, *]; done) | omega))); (focus (first | trivial | with_reducible exact rfl | (simp (maxDischargeDepth := 9) -implicitDefEqProofs -dsimp only [go_sem, seval]; done)))))
    refine fin_eq ?_
    (repeat' (first | simp (maxDischargeDepth := 9) -implicitDefEqProofs -dsimp only [go_sem, seval, *])) <;> (repeat' refine And.intro ?_ ?_) <;> (first | omega | rfl | assumption | skip)
theorem ref_Or (g : Aig) (a b : Int) (σ : Sig) (hs : Wf g) :
    ACalls Try.prog 87 [encAig g, .int .i64 a, .int .i64 b] σ (fun r σ' => r = .ret (.tup [encAig (g.Or a b).1, .int .i64 (g.Or a b).2.1, .int .i64 (g.Or a b).2.2]) ∧ σ' = σ) := by
  refine calls_x mixed Try.func87 b87 n87 rfl q87 (by simp) ?_; unfold c87 r87; try dsimp only [Yi, Yj]
  obtain ⟨e, he⟩ : ∃ e, g.checkL g.check [a, b] = e := ⟨_, rfl⟩
  have hd : g.Or a b = Aig.endW (g.orW e a b) := by rw [← he]; rfl
  by_cases h0 : e = 0
  · subst h0
    obtain ⟨hf, hl⟩ := checkL_fine hs he
    have ha := hl a (by simp)
    have hb := hl b (by simp)
    have ez : ((0 : Int) != 0) = false := by decide
    clear hl
    repeat' (first | simp (maxDischargeDepth := 9) -implicitDefEqProofs -dsimp only [go_sem, seval, *] | ((with_reducible refine Zt (fun oF hoF hnF hnF' => ?_)); (try simp only [upd_none, ne_eq, not_and] at hoF)) | ((with_reducible apply ACalls.one1); (focus ((first | with_reducible refine ref_may g [a, b] _ hs ?_ | with_reducible refine ref_or g a b _ hf ha hb | with_reducible refine ACalls.flA (ref_may g [a, b] _ hs ?_) ?_ | with_reducible refine ACalls.flA (ref_or g a b _ hf ha hb) ?_) <;> (first | (simp (maxDischargeDepth := 9) -implicitDefEqProofs -dsimp only [go_sem, seval, *]; done) | omega))); (focus (first | trivial | with_reducible exact rfl | (simp (maxDischargeDepth := 9) -implicitDefEqProofs -dsimp only [go_sem, seval]; done)))))
    refine fin_eq ?_
    (repeat' (first | simp (maxDischargeDepth := 9) -implicitDefEqProofs -dsimp only [go_sem, seval, *])) <;> (repeat' refine And.intro ?_ ?_) <;> (first | omega | rfl | assumption | skip)
  · have hv : Aig.endW (g.orW e a b) = (⟨0, [], [], []⟩, 0, e) := by
      have h' : g.orW e a b = (g, e, turn 0) := by simp only [Aig.orW, andW_none h0]
      rw [h']; exact endW_err h0
    have hb2 : (e != 0) = true := by simpa using h0
    repeat' (first | simp (maxDischargeDepth := 9) -implicitDefEqProofs -dsimp only [go_sem, seval, *] | ((with_reducible refine Zt (fun oF hoF hnF hnF' => ?_)); (try simp only [upd_none, ne_eq, not_and] at hoF)) | ((with_reducible apply ACalls.one1); (focus ((first | with_reducible refine ref_may g [a, b] _ hs ?_ | with_reducible refine ACalls.flA (ref_may g [a, b] _ hs ?_) ?_) <;> (first | (simp (maxDischargeDepth := 9) -implicitDefEqProofs -dsimp only [go_sem, seval, *]; done) | omega))); (focus (first | trivial | with_reducible exact rfl | (simp (maxDischargeDepth := 9) -implicitDefEqProofs -dsimp only [go_sem, seval]; done)))))
    refine fin_eq ?_
    (repeat' (first | simp (maxDischargeDepth := 9) -implicitDefEqProofs -dsimp only [go_sem, seval, *])) <;> (repeat' refine And.intro ?_ ?_) <;> (first | omega | rfl | assumption | skip)
theorem pairs_err {g : Aig} {e a b c d : Int} (h : e ≠ 0) : Aig.endW (g.pairs e a b c d) = (⟨0, [], [], []⟩, 0, e) := by
  have : g.pairs e a b c d = (g, e, turn 0) := by simp only [Aig.pairs, andW_none h, Aig.orW]
  rw [this]; exact endW_err h
theorem ref_Xor (g : Aig) (a b : Int) (σ : Sig) (hs : Wf g) (ia : I64 a) (ib : I64 b) :
    ACalls Try.prog 86 [encAig g, .int .i64 a, .int .i64 b] σ (fun r σ' => r = .ret (.tup [encAig (g.Xor a b).1, .int .i64 (g.Xor a b).2.1, .int .i64 (g.Xor a b).2.2]) ∧ σ' = σ) := by
  refine calls_x mixed Try.func86 b86 n86 rfl q86 (by simp) ?_; unfold c86 r86; try dsimp only [Yi, Yj]
  obtain ⟨ia1, ia2⟩ := ia
  obtain ⟨ib1, ib2⟩ := ib
  obtain ⟨e, he⟩ : ∃ e, g.checkL g.check [a, b] = e := ⟨_, rfl⟩
  have hd : g.Xor a b = Aig.endW (g.pairs e a (turn b) (turn a) b) := by rw [← he]; rfl
  by_cases h0 : e = 0
  · subst h0
    obtain ⟨hf, hl⟩ := checkL_fine hs he
    have ha := hl a (by simp)
    have hb := hl b (by simp)
    have ta : g.lit (turn a) = true := turn_lit ha
    have tb : g.lit (turn b) = true := turn_lit hb
    have ez : ((0 : Int) != 0) = false := by decide
    clear hl
    repeat' (first | simp (maxDischargeDepth := 9) -implicitDefEqProofs -dsimp only [go_sem, seval, *] | simp (disch := omega) only [xor1] | ((with_reducible refine Zt (fun oF hoF hnF hnF' => ?_)); (try simp only [upd_none, ne_eq, not_and] at hoF)) | ((with_reducible apply ACalls.one1); (focus ((first | with_reducible refine ref_may g [a, b] _ hs ?_ | with_reducible refine ref_pairs g a (turn b) (turn a) b _ hf ha tb ta hb | with_reducible refine ACalls.flA (ref_may g [a, b] _ hs ?_) ?_ | with_reducible refine ACalls.flA (ref_pairs g a (turn b) (turn a) b _ hf ha tb ta hb) ?_) <;> (first | (simp (maxDischargeDepth := 9) -implicitDefEqProofs -dsimp only [go_sem, seval, *]; done) | omega))); (focus (first | trivial | with_reducible exact rfl | (simp (maxDischargeDepth := 9) -implicitDefEqProofs -dsimp only [go_sem, seval]; done)))))
    refine fin_eq ?_
    (repeat' (first | simp (maxDischargeDepth := 9) -implicitDefEqProofs -dsimp only [go_sem, seval, *] | simp (disch := omega) only [xor1])) <;> (repeat' refine And.intro ?_ ?_) <;> (first | omega | rfl | assumption | skip)
  · have hv := pairs_err (g := g) (a := a) (b := turn b) (c := turn a) (d := b) h0
    have hb2 : (e != 0) = true := by simpa using h0
    repeat' (first | simp (maxDischargeDepth := 9) -implicitDefEqProofs -dsimp only [go_sem, seval, *] | simp (disch := omega) only [xor1] | ((with_reducible refine Zt (fun oF hoF hnF hnF' => ?_)); (try simp only [upd_none, ne_eq, not_and] at hoF)) | ((with_reducible apply ACalls.one1); (focus ((first | with_reducible refine ref_may g [a, b] _ hs ?_ | with_reducible refine ACalls.flA (ref_may g [a, b] _ hs ?_) ?_) <;> (first | (simp (maxDischargeDepth := 9) -implicitDefEqProofs -dsimp only [go_sem, seval, *]; done) | omega))); (focus (first | trivial | with_reducible exact rfl | (simp (maxDischargeDepth := 9) -implicitDefEqProofs -dsimp only [go_sem, seval]; done)))))
    refine fin_eq ?_
    (repeat' (first | simp (maxDischargeDepth := 9) -implicitDefEqProofs -dsimp only [go_sem, seval, *] | simp (disch := omega) only [xor1])) <;> (repeat' refine And.intro ?_ ?_) <;> (first | omega | rfl | assumption | skip)
end Go.Proofs.Ytjichkelfhcbcaa.A

namespace Go.Proofs.Ytjichkelfhcbcaa.A
open Abs Fil
theorem ref_Bools (a b : List Bool) (σ : Sig) (ha : a.length ≤ 1000000000) :
    ACalls Try.prog 25 [.slice (a.map encBool) .no, .slice (b.map encBool) .no] σ (fun r σ' => r = .ret (.bool (decide (a = b))) ∧ σ' = σ) := by
  refine calls_x mixed Try.func25 b25 n25 rfl q25 (by simp) ?_; unfold c25 r25; try dsimp only [Yi, Yj]
  by_cases hl : a.length = b.length
  · repeat' (first | simp (maxDischargeDepth := 9) -implicitDefEqProofs -dsimp only [go_sem, seval, *] | simp (disch := omega) only [wrap64] | ((with_reducible refine Zu ?_ ?_); focus omega))
    have hl' := And.intro (Nat.le_of_eq hl) (Nat.le_of_eq hl.symm)
    clear hl
    refine loop_rule (fun i : Nat => [(0, some (.slice (a.map encBool) .no)), (1, some (.slice (b.map encBool) .no)), (5, some (.int .i64 i))]) (fun _ => σ) (fun i => i ≤ a.length ∧ ∀ j, (hj : j < a.length) → j < i → a[j] = b[j]) (fun i => a.length - i) 0 ?_ ?_
    · (repeat' (first | simp (maxDischargeDepth := 9) -implicitDefEqProofs -dsimp only [go_sem, seval, *] | simp (disch := omega) only [wrap64])) <;> (repeat' refine And.intro ?_ ?_) <;> (first | omega | rfl | assumption | skip)
    · rintro i ⟨hi, hok⟩
      by_cases hlt : i < a.length
      · have hlt' : i < b.length := by omega
        obtain ⟨x, hx⟩ : ∃ x, a[i] = x := ⟨_, rfl⟩
        obtain ⟨y, hy⟩ : ∃ y, b[i] = y := ⟨_, rfl⟩
        by_cases he : x = y
        · subst he
          repeat' (first | simp (maxDischargeDepth := 9) -implicitDefEqProofs -dsimp only [go_sem, seval, *] | simp (disch := omega) only [wrap64] | ((with_reducible refine Zu ?_ ?_); focus omega))
          refine loop_next _ _ _ _ (i + 1) ?_; (repeat' (first | simp (maxDischargeDepth := 9) -implicitDefEqProofs -dsimp only [go_sem, seval, *] | simp (disch := omega) only [wrap64])) <;> (repeat' refine And.intro ?_ ?_) <;> (first | omega | rfl | assumption | skip)
          intro j hj hji
          rcases Nat.lt_or_ge j i with h' | h'
          · exact hok j hj h'
          · obtain rfl : j = i := by omega
            rw [hx, hy]
        · have hv : decide (a = b) = false := by simp; intro e; exact he (by rw [← hx, ← hy]; simp only [e])
          have hb : (x == y) = false := by simpa using he
          repeat' (first | simp (maxDischargeDepth := 9) -implicitDefEqProofs -dsimp only [go_sem, seval, *] | simp (disch := omega) only [wrap64] | ((with_reducible refine Zu ?_ ?_); focus omega))
          refine fin_eq ?_
          (repeat' (first | simp (maxDischargeDepth := 9) -implicitDefEqProofs -dsimp only [go_sem, seval, *] | simp (disch := omega) only [wrap64])) <;> (repeat' refine And.intro ?_ ?_) <;> (first | omega | rfl | assumption | skip)
      · have hv : decide (a = b) = true := by simp; exact List.ext_getElem (by omega) fun j hj _ => hok j hj (by omega)
        repeat' (first | simp (maxDischargeDepth := 9) -implicitDefEqProofs -dsimp only [go_sem, seval, *] | simp (disch := omega) only [wrap64] | ((with_reducible refine Zu ?_ ?_); focus omega))
        refine fin_eq ?_
        (repeat' (first | simp (maxDischargeDepth := 9) -implicitDefEqProofs -dsimp only [go_sem, seval, *] | simp (disch := omega) only [wrap64])) <;> (repeat' refine And.intro ?_ ?_) <;> (first | omega | rfl | assumption | skip)
  · have hb : ((a.length : Int) != b.length) = true := by simp; omega
    have hv : decide (a = b) = false := by simp; intro e; exact hl (by rw [e])
    repeat' (first | simp (maxDischargeDepth := 9) -implicitDefEqProofs -dsimp only [go_sem, seval, *] | simp (disch := omega) only [wrap64] | ((with_reducible refine Zu ?_ ?_); focus omega))
    refine fin_eq ?_
    (repeat' (first | simp (maxDischargeDepth := 9) -implicitDefEqProofs -dsimp only [go_sem, seval, *] | simp (disch := omega) only [wrap64])) <;> (repeat' refine And.intro ?_ ?_) <;> (first | omega | rfl | assumption | skip)
theorem ref_Init (g : Aig) (σ : Sig) (hl : g.flops.length ≤ 1000000) :
    ACalls Try.prog 28 [encAig g] σ (fun r σ' => r = .ret (.slice ((g.flops.map (·.init)).map encBool) .no) ∧ σ' = σ) := by
  refine ACalls.virt (callable_of Try.func28 b28 n28) 1 (fun oV1 hoV1 hnV1 hnV1' => ?_); (try simp only [upd_none, ne_eq, not_and] at hoV1); refine calls_x mixed Try.func28 b28 n28 rfl q28 (by simp) ?_; unfold c28 r28; try dsimp only [Yi, Yj]
  repeat' (first | simp (maxDischargeDepth := 9) -implicitDefEqProofs -dsimp only [go_sem, seval, *] | simp (disch := omega) only [wrap64] | ((with_reducible refine Zv ?_ ?_); focus (first | omega | exact rfl)) | ((with_reducible refine Zu ?_ ?_); focus omega))
  refine loop_rule (fun i : Nat => [(4, some (.int .i64 i)), (1, some (.cptr (aigL g))), (3, some (.slice (((g.flops.take i).map (·.init)).map encBool) (.own oV1)))])
    (fun i => upd σ oV1 (.grow 1 i)) (fun i => i ≤ g.flops.length) (fun i => g.flops.length - i) 0 ?_ ?_
  · (repeat' (first | simp (maxDischargeDepth := 9) -implicitDefEqProofs -dsimp only [go_sem, seval, *] | simp (disch := omega) only [wrap64])) <;> (repeat' refine And.intro ?_ ?_) <;> (first | omega | rfl | assumption | skip)
  · intro i hi'
    by_cases hlt : i < g.flops.length
    · have hs := take_succ hlt
      have hlen : (g.flops.take i).length = i := by simp; omega
      repeat' (first | simp (maxDischargeDepth := 9) -implicitDefEqProofs -dsimp only [go_sem, seval, *] | simp (disch := omega) only [wrap64] | ((with_reducible refine Zv ?_ ?_); focus (first | omega | exact rfl)) | ((with_reducible refine Zu ?_ ?_); focus omega))
      refine loop_next _ _ _ _ (i + 1) ?_; (repeat' (first | simp (maxDischargeDepth := 9) -implicitDefEqProofs -dsimp only [go_sem, seval, *] | simp (disch := omega) only [wrap64])) <;> (repeat' refine And.intro ?_ ?_) <;> (first | omega | rfl | assumption | skip)
    · repeat' (first | simp (maxDischargeDepth := 9) -implicitDefEqProofs -dsimp only [go_sem, seval, *] | simp (disch := omega) only [wrap64] | ((with_reducible refine Zv ?_ ?_); focus (first | omega | exact rfl)) | ((with_reducible refine Zu ?_ ?_); focus omega))
      refine fin_eq ?_
      have e0 : g.flops.take i = g.flops := List.take_of_length_le (by omega)
      (repeat' (first | simp (maxDischargeDepth := 9) -implicitDefEqProofs -dsimp only [go_sem, seval, e0, *] | simp (disch := omega) only [wrap64])) <;> (repeat' refine And.intro ?_ ?_) <;> (first | omega | rfl | assumption | skip)
end Go.Proofs.Ytjichkelfhcbcaa.A

namespace Go.Proofs.Ytjichkelfhcbcaa.A
open Abs Fil
theorem ref_Nodes (g : Aig) (inp st : List Bool) (σ : Sig) (hs : Wf g) :
    ACalls Try.prog 62 [encAig g, .slice (inp.map encBool) .no, .slice (st.map encBool) .no] σ (fun r σ' => r = .ret (.tup [.slice ((g.Nodes inp st).1.map encBool) .no, .int .i64 (g.Nodes inp st).2]) ∧ σ' = σ) := by
  refine calls_x mixed Try.func62 b62 n62 rfl q62 (by simp) ?_; unfold c62 r62; try dsimp only [Yi, Yj]
  by_cases hc : g.check = 0
  · by_cases hin : (inp.length : Int) = g.ins
    · by_cases hst : st.length = g.flops.length
      · have hf := check_fine hs hc
        have hsm := hf.toSmall
        have hcn := hf.cnt
        have hlo := hf.lo
        have hgk := gatesOk_iff.1 hf.gok
        have hv : g.Nodes inp st = (Aig.vals (false :: (inp ++ st)) g.ands, 0) := by simp [Aig.Nodes, hc, hin, hst]
        have hb : g.first = 1 + inp.length + st.length ∧ g.first + g.ands.length = 1 + g.count := by unfold Aig.first Aig.count; omega
        have ez : ((0 : Int) != 0) = false := by decide
        have hin' : (inp.length : Int) ≤ g.ins ∧ g.ins ≤ inp.length := by omega
        have hst' : st.length ≤ g.flops.length ∧ g.flops.length ≤ st.length := by omega
        have hal := hs.ands
        have hfl := hs.flops
        have e1 : ((inp.length : Int) != g.ins) = false := by simp; omega
        have e2 : ((st.length : Int) != (g.flops.length : Int)) = false := by simp; omega
        have hlen : (false :: (inp ++ st)).length = 1 + inp.length + st.length := by simp; omega
        clear hin hst
        have key : ∀ i, (hi : i < g.ands.length) → ∀ v, Aig.vals (false :: (inp ++ st)) (g.ands.take i) = v → v.length = 1 + inp.length + st.length + i ∧ 0 ≤ g.ands[i].1 ∧ (g.ands[i].1 / 2).toNat < v.length ∧ 0 ≤ g.ands[i].2 ∧ (g.ands[i].2 / 2).toNat < v.length ∧ v.length ≤ 1000000 ∧
            Aig.vals (false :: (inp ++ st)) (g.ands.take (i + 1)) = v ++ [Aig.val v g.ands[i].1 && Aig.val v g.ands[i].2] := by
          intro i hi v hv
          have ln := vals_len (v := false :: (inp ++ st)) (l := g.ands) (i := i) (by omega)
          rw [hv, hlen] at ln
          have := hgk i hi
          have s := vals_step (v := false :: (inp ++ st)) hi
          rw [hv] at s
          refine ⟨ln, ?_, ?_, ?_, ?_, ?_, s⟩ <;> omega
        clear hgk hf hsm
        obtain ⟨w0, hw0⟩ : ∃ w, Aig.vals (false :: (inp ++ st)) = w := ⟨_, rfl⟩
        have w00 : w0 [] = false :: (inp ++ st) := by rw [← hw0]; rfl
        rw [hw0] at hv key
        repeat' (first | simp (maxDischargeDepth := 9) -implicitDefEqProofs -dsimp only [go_sem, seval, *] | simp (disch := omega) only [wrap64] | (with_reducible (first | apply Zp | apply Zs) <;> intro hq) | ((with_reducible refine Zv ?_ ?_); focus (first | omega | exact rfl)) | ((with_reducible refine Zu ?_ ?_); focus omega) | ((with_reducible refine Zt (fun oF hoF hnF hnF' => ?_)); (try simp only [upd_none, ne_eq, not_and] at hoF)) | ((with_reducible apply ACalls.one1); (focus (first | ((first | with_reducible refine ref_Check g _ hs) <;> (first | (simp (maxDischargeDepth := 9) -implicitDefEqProofs -dsimp only [go_sem, seval, *]; done) | omega)) | (with_reducible refine ACalls.flA (ref_Check g _ hs) ?_ <;> (first | (simp (maxDischargeDepth := 9) -implicitDefEqProofs -dsimp only [go_sem, seval, *]; done) | omega)))); (focus (first | trivial | with_reducible exact rfl | (simp (maxDischargeDepth := 9) -implicitDefEqProofs -dsimp only [go_sem, seval]; done)))))
        all_goals (first | (have hq0 : inp = [] := List.map_eq_nil_iff.1 (by assumption); subst hq0) | skip)
        all_goals (first | (have hq0 : st = [] := List.map_eq_nil_iff.1 (by assumption); subst hq0) | skip)
        all_goals
          first
          | refine loop_rule (fun x : Nat × Option Nat => [(10, some (.int .i64 x.1)), (3, some (.cptr (aigL g))), (9, some (.slice ((w0 (g.ands.take x.1)).map encBool) (tkF x.2)))]) (fun x => sgF σ 1 (w0 (g.ands.take x.1)).length x.2) (fun x => x.1 ≤ g.ands.length ∧ ∀ o, x.2 = some o → σ o = none) (fun x => g.ands.length - x.1) (0, some oF) ?_ ?_
          | refine loop_rule (fun x : Nat × Option Nat => [(10, some (.int .i64 x.1)), (3, some (.cptr (aigL g))), (9, some (.slice ((w0 (g.ands.take x.1)).map encBool) (tkF x.2)))]) (fun x => sgF σ 1 (w0 (g.ands.take x.1)).length x.2) (fun x => x.1 ≤ g.ands.length ∧ ∀ o, x.2 = some o → σ o = none) (fun x => g.ands.length - x.1) (0, none) ?_ ?_
          · (repeat' (first | simp (maxDischargeDepth := 9) -implicitDefEqProofs -dsimp only [go_sem, seval, w00, *] | simp (disch := omega) only [wrap64])) <;> (repeat' refine And.intro ?_ ?_) <;> (first | omega | rfl | assumption | skip)
            all_goals (intro o ho; simp at ho; try (subst ho; assumption))
          · rintro ⟨i, ot⟩ ⟨hi, ho⟩
            simp only at hi ho
            by_cases hlt : i < g.ands.length
            · obtain ⟨v, hv'⟩ : ∃ v, w0 (g.ands.take i) = v := ⟨_, rfl⟩
              obtain ⟨k1, k2, k3, k4, k5, k6, k7⟩ := key i hlt v hv'
              clear key
              cases ot with
              | none =>
                clear ho
                repeat' (first | simp (maxDischargeDepth := 9) -implicitDefEqProofs -dsimp only [go_sem, seval, *] | simp (disch := omega) only [wrap64] | (with_reducible (first | apply Zp | apply Zs) <;> intro hq) | ((with_reducible refine Zv ?_ ?_); focus (first | omega | exact rfl)) | ((with_reducible refine Zu ?_ ?_); focus omega) | ((with_reducible refine Zt (fun oF hoF hnF hnF' => ?_)); (try simp only [upd_none, ne_eq, not_and] at hoF)) | ((with_reducible apply ACalls.one1); (focus (first | ((first | with_reducible refine ref_Value v g.ands[i].1 _ ?_ ?_ ?_ | with_reducible refine ref_Value v g.ands[i].2 _ ?_ ?_ ?_) <;> (first | (simp (maxDischargeDepth := 9) -implicitDefEqProofs -dsimp only [go_sem, seval, *]; done) | omega)) | (with_reducible refine ACalls.flA (ref_Value v g.ands[i].1 _ ?_ ?_ ?_) ?_ <;> (first | (simp (maxDischargeDepth := 9) -implicitDefEqProofs -dsimp only [go_sem, seval, *]; done) | omega)) | (with_reducible refine ACalls.flA (ref_Value v g.ands[i].2 _ ?_ ?_ ?_) ?_ <;> (first | (simp (maxDischargeDepth := 9) -implicitDefEqProofs -dsimp only [go_sem, seval, *]; done) | omega)))); (focus (first | trivial | with_reducible exact rfl | (simp (maxDischargeDepth := 9) -implicitDefEqProofs -dsimp only [go_sem, seval]; done)))))
                all_goals
                  refine loop_next _ _ _ _ ((i + 1, some oF)) ?_; (repeat' (first | simp (maxDischargeDepth := 9) -implicitDefEqProofs -dsimp only [go_sem, seval, *] | simp (disch := omega) only [wrap64])) <;> (repeat' refine And.intro ?_ ?_) <;> (first | omega | rfl | assumption | skip)
                  all_goals (intro o ho'; simp at ho'; try (subst ho'; assumption))
              | some o1 =>
                have ho1 := ho o1 rfl
                clear ho
                repeat' (first | simp (maxDischargeDepth := 9) -implicitDefEqProofs -dsimp only [go_sem, seval, *] | simp (disch := omega) only [wrap64] | (with_reducible (first | apply Zp | apply Zs) <;> intro hq) | ((with_reducible refine Zv ?_ ?_); focus (first | omega | exact rfl)) | ((with_reducible refine Zu ?_ ?_); focus omega) | ((with_reducible refine Zt (fun oF hoF hnF hnF' => ?_)); (try simp only [upd_none, ne_eq, not_and] at hoF)) | ((with_reducible apply ACalls.one1); (focus (first | ((first | with_reducible refine ref_Value v g.ands[i].1 _ ?_ ?_ ?_ | with_reducible refine ref_Value v g.ands[i].2 _ ?_ ?_ ?_) <;> (first | (simp (maxDischargeDepth := 9) -implicitDefEqProofs -dsimp only [go_sem, seval, *]; done) | omega)) | (with_reducible refine ACalls.flA (ref_Value v g.ands[i].1 _ ?_ ?_ ?_) ?_ <;> (first | (simp (maxDischargeDepth := 9) -implicitDefEqProofs -dsimp only [go_sem, seval, *]; done) | omega)) | (with_reducible refine ACalls.flA (ref_Value v g.ands[i].2 _ ?_ ?_ ?_) ?_ <;> (first | (simp (maxDischargeDepth := 9) -implicitDefEqProofs -dsimp only [go_sem, seval, *]; done) | omega)))); (focus (first | trivial | with_reducible exact rfl | (simp (maxDischargeDepth := 9) -implicitDefEqProofs -dsimp only [go_sem, seval]; done)))))
                all_goals
                  refine loop_next _ _ _ _ ((i + 1, some o1)) ?_; (repeat' (first | simp (maxDischargeDepth := 9) -implicitDefEqProofs -dsimp only [go_sem, seval, *] | simp (disch := omega) only [wrap64])) <;> (repeat' refine And.intro ?_ ?_) <;> (first | omega | rfl | assumption | skip)
                  all_goals (intro o ho'; simp at ho'; try (subst ho'; assumption))
            · have e0 : g.ands.take i = g.ands := List.take_of_length_le (by omega)
              clear key
              cases ot with
              | none =>
                repeat' (first | simp (maxDischargeDepth := 9) -implicitDefEqProofs -dsimp only [go_sem, seval, *] | simp (disch := omega) only [wrap64] | (with_reducible (first | apply Zp | apply Zs) <;> intro hq) | ((with_reducible refine Zv ?_ ?_); focus (first | omega | exact rfl)) | ((with_reducible refine Zu ?_ ?_); focus omega) | ((with_reducible refine Zt (fun oF hoF hnF hnF' => ?_)); (try simp only [upd_none, ne_eq, not_and] at hoF)))
                refine fin_eq ?_
                (repeat' (first | simp (maxDischargeDepth := 9) -implicitDefEqProofs -dsimp only [go_sem, seval, e0, *] | simp (disch := omega) only [wrap64])) <;> (repeat' refine And.intro ?_ ?_) <;> (first | omega | rfl | assumption | skip)
              | some o1 =>
                have ho1 := ho o1 rfl
                clear ho
                repeat' (first | simp (maxDischargeDepth := 9) -implicitDefEqProofs -dsimp only [go_sem, seval, *] | simp (disch := omega) only [wrap64] | (with_reducible (first | apply Zp | apply Zs) <;> intro hq) | ((with_reducible refine Zv ?_ ?_); focus (first | omega | exact rfl)) | ((with_reducible refine Zu ?_ ?_); focus omega) | ((with_reducible refine Zt (fun oF hoF hnF hnF' => ?_)); (try simp only [upd_none, ne_eq, not_and] at hoF)))
                refine fin_eq ?_
                (repeat' (first | simp (maxDischargeDepth := 9) -implicitDefEqProofs -dsimp only [go_sem, seval, e0, *] | simp (disch := omega) only [wrap64])) <;> (repeat' refine And.intro ?_ ?_) <;> (first | omega | rfl | assumption | skip)
      · have hv : g.Nodes inp st = ([], 1) := by simp [Aig.Nodes, *]
        have hb : ((st.length : Int) != g.flops.length) = true := by simp; omega
        repeat' (first | simp (maxDischargeDepth := 9) -implicitDefEqProofs -dsimp only [go_sem, seval, *] | simp (disch := omega) only [wrap64] | (with_reducible (first | apply Zp | apply Zs) <;> intro hq) | ((with_reducible refine Zv ?_ ?_); focus (first | omega | exact rfl)) | ((with_reducible refine Zu ?_ ?_); focus omega) | ((with_reducible refine Zt (fun oF hoF hnF hnF' => ?_)); (try simp only [upd_none, ne_eq, not_and] at hoF)) | ((with_reducible apply ACalls.one1); (focus (first | ((first | with_reducible refine ref_Check g _ hs) <;> (first | (simp (maxDischargeDepth := 9) -implicitDefEqProofs -dsimp only [go_sem, seval, *]; done) | omega)) | (with_reducible refine ACalls.flA (ref_Check g _ hs) ?_ <;> (first | (simp (maxDischargeDepth := 9) -implicitDefEqProofs -dsimp only [go_sem, seval, *]; done) | omega)))); (focus (first | trivial | with_reducible exact rfl | (simp (maxDischargeDepth := 9) -implicitDefEqProofs -dsimp only [go_sem, seval]; done)))))
        refine fin_eq ?_
        (repeat' (first | simp (maxDischargeDepth := 9) -implicitDefEqProofs -dsimp only [go_sem, seval, *] | simp (disch := omega) only [wrap64])) <;> (repeat' refine And.intro ?_ ?_) <;> (first | omega | rfl | assumption | skip)
    · have hv : g.Nodes inp st = ([], 1) := by simp [Aig.Nodes, *]
      have hb : ((inp.length : Int) != g.ins) = true := by simpa using hin
      repeat' (first | simp (maxDischargeDepth := 9) -implicitDefEqProofs -dsimp only [go_sem, seval, *] | simp (disch := omega) only [wrap64] | (with_reducible (first | apply Zp | apply Zs) <;> intro hq) | ((with_reducible refine Zv ?_ ?_); focus (first | omega | exact rfl)) | ((with_reducible refine Zu ?_ ?_); focus omega) | ((with_reducible refine Zt (fun oF hoF hnF hnF' => ?_)); (try simp only [upd_none, ne_eq, not_and] at hoF)) | ((with_reducible apply ACalls.one1); (focus (first | ((first | with_reducible refine ref_Check g _ hs) <;> (first | (simp (maxDischargeDepth := 9) -implicitDefEqProofs -dsimp only [go_sem, seval, *]; done) | omega)) | (with_reducible refine ACalls.flA (ref_Check g _ hs) ?_ <;> (first | (simp (maxDischargeDepth := 9) -implicitDefEqProofs -dsimp only [go_sem, seval, *]; done) | omega)))); (focus (first | trivial | with_reducible exact rfl | (simp (maxDischargeDepth := 9) -implicitDefEqProofs -dsimp only [go_sem, seval]; done)))))
      refine fin_eq ?_
      (repeat' (first | simp (maxDischargeDepth := 9) -implicitDefEqProofs -dsimp only [go_sem, seval, *] | simp (disch := omega) only [wrap64])) <;> (repeat' refine And.intro ?_ ?_) <;> (first | omega | rfl | assumption | skip)
  · have hv : g.Nodes inp st = ([], g.check) := by simp [Aig.Nodes, *]
    have hb : (g.check != 0) = true := by simpa using hc
    repeat' (first | simp (maxDischargeDepth := 9) -implicitDefEqProofs -dsimp only [go_sem, seval, *] | simp (disch := omega) only [wrap64] | (with_reducible (first | apply Zp | apply Zs) <;> intro hq) | ((with_reducible refine Zv ?_ ?_); focus (first | omega | exact rfl)) | ((with_reducible refine Zu ?_ ?_); focus omega) | ((with_reducible refine Zt (fun oF hoF hnF hnF' => ?_)); (try simp only [upd_none, ne_eq, not_and] at hoF)) | ((with_reducible apply ACalls.one1); (focus (first | ((first | with_reducible refine ref_Check g _ hs) <;> (first | (simp (maxDischargeDepth := 9) -implicitDefEqProofs -dsimp only [go_sem, seval, *]; done) | omega)) | (with_reducible refine ACalls.flA (ref_Check g _ hs) ?_ <;> (first | (simp (maxDischargeDepth := 9) -implicitDefEqProofs -dsimp only [go_sem, seval, *]; done) | omega)))); (focus (first | trivial | with_reducible exact rfl | (simp (maxDischargeDepth := 9) -implicitDefEqProofs -dsimp only [go_sem, seval]; done)))))
    refine fin_eq ?_
    (repeat' (first | simp (maxDischargeDepth := 9) -implicitDefEqProofs -dsimp only [go_sem, seval, *] | simp (disch := omega) only [wrap64])) <;> (repeat' refine And.intro ?_ ?_) <;> (first | omega | rfl | assumption | skip)
theorem ref_Eval (g : Aig) (inp st : List Bool) (σ : Sig) (hs : Wf g) :
    ACalls Try.prog 26 [encAig g, .slice (inp.map encBool) .no, .slice (st.map encBool) .no] σ (fun r σ' => r = .ret (.tup [.slice ((g.Eval inp st).1.map encBool) .no, .slice ((g.Eval inp st).2.1.map encBool) .no, .int .i64 (g.Eval inp st).2.2]) ∧ σ' = σ) := by
  refine ACalls.virt (callable_of Try.func26 b26 n26) 1 (fun oV1 hoV1 hnV1 hnV1' => ?_); (try simp only [upd_none, ne_eq, not_and] at hoV1); refine ACalls.virt (callable_of Try.func26 b26 n26) 1 (fun oV2 hoV2 hnV2 hnV2' => ?_); (try simp only [upd_none, ne_eq, not_and] at hoV2); refine calls_x mixed Try.func26 b26 n26 rfl q26 (by simp) ?_; unfold c26 r26; try dsimp only [Yi, Yj]
  by_cases h0 : (g.Nodes inp st).2 = 0
  · obtain ⟨hf, hg, h1, h2, h3, h4⟩ := nodes_ok hs h0
    have hc := hf.cnt
    have ho := hs.outs
    have hfl := hs.flops
    have hlo := hf.lo
    have hcc : 0 ≤ g.count := by unfold Aig.count; omega
    have hv : g.Eval inp st = (g.outs.map (Aig.val (g.Nodes inp st).1), g.flops.map (fun f => Aig.val (g.Nodes inp st).1 f.next), 0) := by simp [Aig.Eval, h0]
    have ez : ((0 : Int) != 0) = false := by decide
    clear h3
    repeat' (first | simp (maxDischargeDepth := 9) -implicitDefEqProofs -dsimp only [go_sem, seval, *] | simp (disch := omega) only [wrap64] | ((with_reducible refine Zv ?_ ?_); focus (first | omega | exact rfl)) | ((with_reducible refine Zu ?_ ?_); focus omega) | ((with_reducible apply ACalls.one1); (focus (first | ((first | with_reducible refine ref_Nodes g inp st _ hs) <;> (first | (simp (maxDischargeDepth := 9) -implicitDefEqProofs -dsimp only [go_sem, seval, *]; done) | omega)) | (with_reducible refine ACalls.flA (ref_Nodes g inp st _ hs) ?_ <;> (first | (simp (maxDischargeDepth := 9) -implicitDefEqProofs -dsimp only [go_sem, seval, *]; done) | omega)))); (focus (first | trivial | with_reducible exact rfl | (simp (maxDischargeDepth := 9) -implicitDefEqProofs -dsimp only [go_sem, seval]; done)))))
    generalize (g.Nodes inp st).1 = v at *
    refine loop_rule (fun i : Nat => [(13, some (.int .i64 i)), (11, some (.slice (((g.outs.take i).map (Aig.val v)).map encBool) (.own oV1))), (9, some (.slice (v.map encBool) .no)), (3, some (.cptr (aigL g))), (12, some (.slice [] .nil))])
      (fun i => upd (upd σ oV1 (.grow 1 i)) oV2 (.virt 1)) (fun i => i ≤ g.outs.length) (fun i => g.outs.length - i) 0 ?_ ?_
    · (repeat' (first | simp (maxDischargeDepth := 9) -implicitDefEqProofs -dsimp only [go_sem, seval, *] | simp (disch := omega) only [wrap64])) <;> (repeat' refine And.intro ?_ ?_) <;> (first | omega | rfl | assumption | skip)
    · intro i hi'
      by_cases hlt : i < g.outs.length
      · have hs' := take_succ hlt
        have hlen : (g.outs.take i).length = i := by simp; omega
        have hgo := good_outs hg (List.getElem_mem hlt)
        repeat' (first | simp (maxDischargeDepth := 9) -implicitDefEqProofs -dsimp only [go_sem, seval, *] | simp (disch := omega) only [wrap64] | ((with_reducible refine Zv ?_ ?_); focus (first | omega | exact rfl)) | ((with_reducible refine Zu ?_ ?_); focus omega) | ((with_reducible apply ACalls.one1); (focus (first | ((first | with_reducible refine ref_Value v g.outs[i] _ ?_ ?_ ?_) <;> (first | (simp (maxDischargeDepth := 9) -implicitDefEqProofs -dsimp only [go_sem, seval, *]; done) | omega)) | (with_reducible refine ACalls.flA (ref_Value v g.outs[i] _ ?_ ?_ ?_) ?_ <;> (first | (simp (maxDischargeDepth := 9) -implicitDefEqProofs -dsimp only [go_sem, seval, *]; done) | omega)))); (focus (first | trivial | with_reducible exact rfl | (simp (maxDischargeDepth := 9) -implicitDefEqProofs -dsimp only [go_sem, seval]; done)))))
        refine loop_next _ _ _ _ (i + 1) ?_; (repeat' (first | simp (maxDischargeDepth := 9) -implicitDefEqProofs -dsimp only [go_sem, seval, *] | simp (disch := omega) only [wrap64])) <;> (repeat' refine And.intro ?_ ?_) <;> (first | omega | rfl | assumption | skip)
      · repeat' (first | simp (maxDischargeDepth := 9) -implicitDefEqProofs -dsimp only [go_sem, seval, *] | simp (disch := omega) only [wrap64] | ((with_reducible refine Zv ?_ ?_); focus (first | omega | exact rfl)) | ((with_reducible refine Zu ?_ ?_); focus omega))
        have e0 : g.outs.take i = g.outs := List.take_of_length_le (by omega)
        rw [e0]
        refine loop_rule (fun i : Nat => [(14, some (.int .i64 i)), (12, some (.slice (((g.flops.take i).map fun f => Aig.val v f.next).map encBool) (.own oV2))), (9, some (.slice (v.map encBool) .no)), (3, some (.cptr (aigL g))), (11, some (.slice ((g.outs.map (Aig.val v)).map encBool) .no))])
          (fun i => upd σ oV2 (.grow 1 i)) (fun i => i ≤ g.flops.length) (fun i => g.flops.length - i) 0 ?_ ?_
        · (repeat' (first | simp (maxDischargeDepth := 9) -implicitDefEqProofs -dsimp only [go_sem, seval, *] | simp (disch := omega) only [wrap64])) <;> (repeat' refine And.intro ?_ ?_) <;> (first | omega | rfl | assumption | skip)
        · intro i hi'
          by_cases hlt : i < g.flops.length
          · have hs' := take_succ hlt
            have hlen : (g.flops.take i).length = i := by simp; omega
            have hgo := good_flops hg (List.getElem_mem hlt)
            repeat' (first | simp (maxDischargeDepth := 9) -implicitDefEqProofs -dsimp only [go_sem, seval, *] | simp (disch := omega) only [wrap64] | ((with_reducible refine Zv ?_ ?_); focus (first | omega | exact rfl)) | ((with_reducible refine Zu ?_ ?_); focus omega) | ((with_reducible apply ACalls.one1); (focus (first | ((first | with_reducible refine ref_Value v g.flops[i].next _ ?_ ?_ ?_) <;> (first | (simp (maxDischargeDepth := 9) -implicitDefEqProofs -dsimp only [go_sem, seval, *]; done) | omega)) | (with_reducible refine ACalls.flA (ref_Value v g.flops[i].next _ ?_ ?_ ?_) ?_ <;> (first | (simp (maxDischargeDepth := 9) -implicitDefEqProofs -dsimp only [go_sem, seval, *]; done) | omega)))); (focus (first | trivial | with_reducible exact rfl | (simp (maxDischargeDepth := 9) -implicitDefEqProofs -dsimp only [go_sem, seval]; done)))))
            refine loop_next _ _ _ _ (i + 1) ?_; (repeat' (first | simp (maxDischargeDepth := 9) -implicitDefEqProofs -dsimp only [go_sem, seval, *] | simp (disch := omega) only [wrap64])) <;> (repeat' refine And.intro ?_ ?_) <;> (first | omega | rfl | assumption | skip)
          · repeat' (first | simp (maxDischargeDepth := 9) -implicitDefEqProofs -dsimp only [go_sem, seval, *] | simp (disch := omega) only [wrap64] | ((with_reducible refine Zv ?_ ?_); focus (first | omega | exact rfl)) | ((with_reducible refine Zu ?_ ?_); focus omega))
            have e0 : g.flops.take i = g.flops := List.take_of_length_le (by omega)
            refine fin_eq ?_
            (repeat' (first | simp (maxDischargeDepth := 9) -implicitDefEqProofs -dsimp only [go_sem, seval, e0, *] | simp (disch := omega) only [wrap64])) <;> (repeat' refine And.intro ?_ ?_) <;> (first | omega | rfl | assumption | skip)
  · have hv : g.Eval inp st = ([], [], (g.Nodes inp st).2) := by simp [Aig.Eval, h0]
    have hb : ((g.Nodes inp st).2 != 0) = true := by simpa using h0
    repeat' (first | simp (maxDischargeDepth := 9) -implicitDefEqProofs -dsimp only [go_sem, seval, *] | simp (disch := omega) only [wrap64] | ((with_reducible refine Zv ?_ ?_); focus (first | omega | exact rfl)) | ((with_reducible refine Zu ?_ ?_); focus omega) | ((with_reducible apply ACalls.one1); (focus (first | ((first | with_reducible refine ref_Nodes g inp st _ hs) <;> (first | (simp (maxDischargeDepth := 9) -implicitDefEqProofs -dsimp only [go_sem, seval, *]; done) | omega)) | (with_reducible refine ACalls.flA (ref_Nodes g inp st _ hs) ?_ <;> (first | (simp (maxDischargeDepth := 9) -implicitDefEqProofs -dsimp only [go_sem, seval, *]; done) | omega)))); (focus (first | trivial | with_reducible exact rfl | (simp (maxDischargeDepth := 9) -implicitDefEqProofs -dsimp only [go_sem, seval]; done)))))
    refine fin_eq ?_
    (repeat' (first | simp (maxDischargeDepth := 9) -implicitDefEqProofs -dsimp only [go_sem, seval, *] | simp (disch := omega) only [wrap64])) <;> (repeat' refine And.intro ?_ ?_) <;> (first | omega | rfl | assumption | skip)
theorem ref_Run (g : Aig) (ins : List (List Bool)) (σ : Sig) (hs : Wf g) (hi : ins.length ≤ 1000000) :
    ACalls Try.prog 27 [encAig g, .slice (ins.map (encRow encBool)) .no] σ (fun r σ' => r = .ret (.tup [.slice ((g.Run ins).1.map (encRow encBool)) .no, .int .i64 (g.Run ins).2]) ∧ σ' = σ) := by
  refine ACalls.virt (callable_of Try.func27 b27 n27) 1 (fun oV1 hoV1 hnV1 hnV1' => ?_); (try simp only [upd_none, ne_eq, not_and] at hoV1); refine calls_x mixed Try.func27 b27 n27 rfl q27 (by simp) ?_; unfold c27 r27; try dsimp only [Yi, Yj]
  have hfl := hs.flops
  have hz : ∀ l : List (List Bool), szs 1 (l.map (encRow encBool)) = True := fun l => szs_map _ _ _ fun _ => rfl
  by_cases h0 : g.check = 0
  · have hv : g.Run ins = g.runs (g.flops.map (·.init)) [] ins := by simp [Aig.Run, h0]
    have ez : ((0 : Int) != 0) = false := by decide
    repeat' (first | simp (maxDischargeDepth := 9) -implicitDefEqProofs -dsimp only [go_sem, seval, *] | simp (disch := omega) only [wrap64] | ((with_reducible refine Zv ?_ ?_); focus (first | omega | exact rfl)) | ((with_reducible refine Zu ?_ ?_); focus omega) | ((with_reducible apply ACalls.one1); (focus (first | ((first | with_reducible refine ref_Check g _ hs | with_reducible refine ref_Init g _ hfl) <;> (first | (simp (maxDischargeDepth := 9) -implicitDefEqProofs -dsimp only [go_sem, seval, *]; done) | omega)) | (with_reducible refine ACalls.flA (ref_Check g _ hs) ?_ <;> (first | (simp (maxDischargeDepth := 9) -implicitDefEqProofs -dsimp only [go_sem, seval, *]; done) | omega)) | (with_reducible refine ACalls.flA (ref_Init g _ hfl) ?_ <;> (first | (simp (maxDischargeDepth := 9) -implicitDefEqProofs -dsimp only [go_sem, seval, *]; done) | omega)))); (focus (first | trivial | with_reducible exact rfl | (simp (maxDischargeDepth := 9) -implicitDefEqProofs -dsimp only [go_sem, seval]; done)))))
    refine loop_rule (fun x : Nat × List Bool × List (List Bool) => [(9, some (.int .i64 x.1)), (1, some (.slice (ins.map (encRow encBool)) .no)), (2, some (.cptr (aigL g))), (7, some (.slice (x.2.1.map encBool) .no)), (8, some (.slice (x.2.2.map (encRow encBool)) (.own oV1)))])
      (fun x => upd σ oV1 (.grow 1 x.1)) (fun x => x.1 ≤ ins.length ∧ x.2.2.length = x.1 ∧ g.runs (g.flops.map (·.init)) [] ins = g.runs x.2.1 x.2.2 (ins.drop x.1)) (fun x => ins.length - x.1) (0, g.flops.map (·.init), []) ?_ ?_
    · (repeat' (first | simp (maxDischargeDepth := 9) -implicitDefEqProofs -dsimp only [go_sem, seval, List.drop_zero, *] | simp (disch := omega) only [wrap64])) <;> (repeat' refine And.intro ?_ ?_) <;> (first | omega | rfl | assumption | skip)
    · rintro ⟨i, st, out⟩ ⟨hi', hlen, hr⟩
      simp only at hi' hlen hr
      by_cases hlt : i < ins.length
      · have hd : ins.drop i = ins[i] :: ins.drop (i + 1) := List.drop_eq_getElem_cons hlt
        rw [hd] at hr
        simp only [Aig.runs] at hr
        by_cases he : (g.Eval ins[i] st).2.2 = 0
        · have hr2 : g.runs (g.flops.map (·.init)) [] ins = g.runs (g.Eval ins[i] st).2.1 (out ++ [(g.Eval ins[i] st).1]) (ins.drop (i + 1)) := by rw [hr, if_neg (by simp [he])]
          clear hr hd
          rw [hv, hr2]
          clear hv
          repeat' (first | simp (maxDischargeDepth := 9) -implicitDefEqProofs -dsimp only [go_sem, seval, *] | simp (disch := omega) only [wrap64] | ((with_reducible refine Zv ?_ ?_); focus (first | omega | exact rfl)) | ((with_reducible refine Zu ?_ ?_); focus omega) | ((with_reducible apply ACalls.one1); (focus (first | ((first | with_reducible refine ref_Eval g ins[i] st _ hs) <;> (first | (simp (maxDischargeDepth := 9) -implicitDefEqProofs -dsimp only [go_sem, seval, *]; done) | omega)) | (with_reducible refine ACalls.flA (ref_Eval g ins[i] st _ hs) ?_ <;> (first | (simp (maxDischargeDepth := 9) -implicitDefEqProofs -dsimp only [go_sem, seval, *]; done) | omega)))); (focus (first | trivial | with_reducible exact rfl | (simp (maxDischargeDepth := 9) -implicitDefEqProofs -dsimp only [go_sem, seval]; done)))) | ((with_reducible apply id_one0); (focus (intro tS hS; (first | ((first | with_reducible refine ref_Eval g ins[i] st _ hs) <;> (first | (simp (maxDischargeDepth := 9) -implicitDefEqProofs -dsimp only [go_sem, seval, *]; done) | omega | ((with_reducible refine Sub.get hS ?_); simp (maxDischargeDepth := 9) -implicitDefEqProofs -dsimp only [go_sem, seval, *]; done))) | (with_reducible refine ACalls.flA (ref_Eval g ins[i] st _ hs) ?_ <;> (first | (simp (maxDischargeDepth := 9) -implicitDefEqProofs -dsimp only [go_sem, seval, *]; done) | omega | ((with_reducible refine Sub.get hS ?_); simp (maxDischargeDepth := 9) -implicitDefEqProofs -dsimp only [go_sem, seval, *]; done)))))); (focus (first | trivial | (simp (maxDischargeDepth := 9) -implicitDefEqProofs -dsimp only [go_sem, seval, *]; done)))))
          refine loop_next _ _ _ _ ((i + 1, (g.Eval ins[i] st).2.1, out ++ [(g.Eval ins[i] st).1])) ?_; (repeat' (first | simp (maxDischargeDepth := 9) -implicitDefEqProofs -dsimp only [go_sem, seval, *] | simp (disch := omega) only [wrap64])) <;> (repeat' refine And.intro ?_ ?_) <;> (first | omega | rfl | assumption | skip)
        · have hr2 : g.runs (g.flops.map (·.init)) [] ins = ([], (g.Eval ins[i] st).2.2) := by rw [hr, if_pos he]
          have hb : ((g.Eval ins[i] st).2.2 != 0) = true := by simpa using he
          clear hr hd
          rw [hv, hr2]
          clear hv
          repeat' (first | simp (maxDischargeDepth := 9) -implicitDefEqProofs -dsimp only [go_sem, seval, *] | simp (disch := omega) only [wrap64] | ((with_reducible refine Zv ?_ ?_); focus (first | omega | exact rfl)) | ((with_reducible refine Zu ?_ ?_); focus omega) | ((with_reducible apply ACalls.one1); (focus (first | ((first | with_reducible refine ref_Eval g ins[i] st _ hs) <;> (first | (simp (maxDischargeDepth := 9) -implicitDefEqProofs -dsimp only [go_sem, seval, *]; done) | omega)) | (with_reducible refine ACalls.flA (ref_Eval g ins[i] st _ hs) ?_ <;> (first | (simp (maxDischargeDepth := 9) -implicitDefEqProofs -dsimp only [go_sem, seval, *]; done) | omega)))); (focus (first | trivial | with_reducible exact rfl | (simp (maxDischargeDepth := 9) -implicitDefEqProofs -dsimp only [go_sem, seval]; done)))) | ((with_reducible apply id_one0); (focus (intro tS hS; (first | ((first | with_reducible refine ref_Eval g ins[i] st _ hs) <;> (first | (simp (maxDischargeDepth := 9) -implicitDefEqProofs -dsimp only [go_sem, seval, *]; done) | omega | ((with_reducible refine Sub.get hS ?_); simp (maxDischargeDepth := 9) -implicitDefEqProofs -dsimp only [go_sem, seval, *]; done))) | (with_reducible refine ACalls.flA (ref_Eval g ins[i] st _ hs) ?_ <;> (first | (simp (maxDischargeDepth := 9) -implicitDefEqProofs -dsimp only [go_sem, seval, *]; done) | omega | ((with_reducible refine Sub.get hS ?_); simp (maxDischargeDepth := 9) -implicitDefEqProofs -dsimp only [go_sem, seval, *]; done)))))); (focus (first | trivial | (simp (maxDischargeDepth := 9) -implicitDefEqProofs -dsimp only [go_sem, seval, *]; done)))))
          refine fin_eq ?_
          (repeat' (first | simp (maxDischargeDepth := 9) -implicitDefEqProofs -dsimp only [go_sem, seval, *] | simp (disch := omega) only [wrap64])) <;> (repeat' refine And.intro ?_ ?_) <;> (first | omega | rfl | assumption | skip)
      · have e1 : ins.drop i = [] := List.drop_of_length_le (by omega)
        rw [e1] at hr
        simp only [Aig.runs] at hr
        rw [hv, hr]
        clear hv
        repeat' (first | simp (maxDischargeDepth := 9) -implicitDefEqProofs -dsimp only [go_sem, seval, *] | simp (disch := omega) only [wrap64] | ((with_reducible refine Zv ?_ ?_); focus (first | omega | exact rfl)) | ((with_reducible refine Zu ?_ ?_); focus omega))
        refine fin_eq ?_
        (repeat' (first | simp (maxDischargeDepth := 9) -implicitDefEqProofs -dsimp only [go_sem, seval, *] | simp (disch := omega) only [wrap64])) <;> (repeat' refine And.intro ?_ ?_) <;> (first | omega | rfl | assumption | skip)
  · have hv : g.Run ins = ([], g.check) := by simp [Aig.Run, h0]
    have hb : (g.check != 0) = true := by simpa using h0
    repeat' (first | simp (maxDischargeDepth := 9) -implicitDefEqProofs -dsimp only [go_sem, seval, *] | simp (disch := omega) only [wrap64] | ((with_reducible refine Zv ?_ ?_); focus (first | omega | exact rfl)) | ((with_reducible refine Zu ?_ ?_); focus omega) | ((with_reducible apply ACalls.one1); (focus (first | ((first | with_reducible refine ref_Check g _ hs) <;> (first | (simp (maxDischargeDepth := 9) -implicitDefEqProofs -dsimp only [go_sem, seval, *]; done) | omega)) | (with_reducible refine ACalls.flA (ref_Check g _ hs) ?_ <;> (first | (simp (maxDischargeDepth := 9) -implicitDefEqProofs -dsimp only [go_sem, seval, *]; done) | omega)))); (focus (first | trivial | with_reducible exact rfl | (simp (maxDischargeDepth := 9) -implicitDefEqProofs -dsimp only [go_sem, seval]; done)))))
    refine fin_eq ?_
    (repeat' (first | simp (maxDischargeDepth := 9) -implicitDefEqProofs -dsimp only [go_sem, seval, *] | simp (disch := omega) only [wrap64])) <;> (repeat' refine And.intro ?_ ?_) <;> (first | omega | rfl | assumption | skip)
end Go.Proofs.Ytjichkelfhcbcaa.A

namespace Fil.Bd
abbrev T3 := Int × Int × Int
def frk (F : List T3) (n : Int) : T3 := F.getD n.toNat (0, 0, 0)
def top (vars : Int) (F : List T3) (n : Int) : Int := if n < 2 then vars else (frk F n).1
def tab (F : List T3) : Nat → Int → Int → List Bool
  | 0, _, n => [n == 1]
  | k + 1, v, n => if 2 ≤ n ∧ (frk F n).1 = v then tab F k (v + 1) (frk F n).2.1 ++ tab F k (v + 1) (frk F n).2.2 else tab F k (v + 1) n ++ tab F k (v + 1) n
structure Ok (vars : Int) (F : List T3) : Prop where
  two : 2 ≤ F.length
  lo : 0 ≤ vars
  var : ∀ i : Int, 2 ≤ i → i < F.length → 0 ≤ (frk F i).1 ∧ (frk F i).1 < vars
  ne : ∀ i : Int, 2 ≤ i → i < F.length → (frk F i).2.1 ≠ (frk F i).2.2
  low : ∀ i : Int, 2 ≤ i → i < F.length → 0 ≤ (frk F i).2.1 ∧ (frk F i).2.1 < i ∧ (frk F i).1 < top vars F (frk F i).2.1
  high : ∀ i : Int, 2 ≤ i → i < F.length → 0 ≤ (frk F i).2.2 ∧ (frk F i).2.2 < i ∧ (frk F i).1 < top vars F (frk F i).2.2
  uniq : ∀ i j : Int, 2 ≤ i → i < F.length → 2 ≤ j → j < F.length → frk F i = frk F j → i = j
def In (vars : Int) (F : List T3) (v n : Int) : Prop := 0 ≤ n ∧ n < F.length ∧ v ≤ top vars F n
theorem tab_len (F : List T3) : ∀ k v n, (tab F k v n).length = 2 ^ k
  | 0, v, n => rfl
  | k + 1, v, n => by
    simp only [tab]
    split <;> simp [tab_len F k] <;> omega
theorem tab_at {F : List T3} {k v n} (h : 2 ≤ n ∧ (frk F n).1 = v) : tab F (k + 1) v n = tab F k (v + 1) (frk F n).2.1 ++ tab F k (v + 1) (frk F n).2.2 := by rw [tab, if_pos h]
theorem tab_up {F : List T3} {k v n} (h : ¬ (2 ≤ n ∧ (frk F n).1 = v)) : tab F (k + 1) v n = tab F k (v + 1) n ++ tab F k (v + 1) n := by rw [tab, if_neg h]
theorem In.up {vars F v n} (h : In vars F v n) (ho : Ok vars F) {k : Nat} (hv : v + (k + 1 : Nat) = vars) (hn : ¬ (2 ≤ n ∧ (frk F n).1 = v)) : In vars F (v + 1) n := by
  obtain ⟨h1, h2, h3⟩ := h
  refine ⟨h1, h2, ?_⟩
  unfold top at h3 ⊢
  split
  · omega
  · rename_i h4
    rw [if_neg h4] at h3
    have : (frk F n).1 ≠ v := fun e => hn ⟨by omega, e⟩
    omega
theorem In.lo {vars F v n} (h : In vars F v n) (ho : Ok vars F) (hn : 2 ≤ n ∧ (frk F n).1 = v) : In vars F (v + 1) (frk F n).2.1 := by
  obtain ⟨h1, h2, h3⟩ := h
  obtain ⟨a, b, c⟩ := ho.low n hn.1 h2
  exact ⟨a, by omega, by omega⟩
theorem In.hi {vars F v n} (h : In vars F v n) (ho : Ok vars F) (hn : 2 ≤ n ∧ (frk F n).1 = v) : In vars F (v + 1) (frk F n).2.2 := by
  obtain ⟨h1, h2, h3⟩ := h
  obtain ⟨a, b, c⟩ := ho.high n hn.1 h2
  exact ⟨a, by omega, by omega⟩
theorem In.end {vars F n} (h : In vars F vars n) (ho : Ok vars F) : n = 0 ∨ n = 1 := by
  obtain ⟨h1, h2, h3⟩ := h
  unfold top at h3
  split at h3
  · omega
  · have := (ho.var n (by omega) h2).2
    omega
theorem canon {vars F} (ho : Ok vars F) : ∀ (k : Nat) (v n m : Int), v + k = vars → In vars F v n → In vars F v m → tab F k v n = tab F k v m → n = m
  | 0, v, n, m, hv, hn, hm, h => by
    have e : v = vars := by omega
    subst e
    rcases hn.end ho with rfl | rfl <;> rcases hm.end ho with rfl | rfl <;> first | rfl | (exfalso; revert h; simp [tab])
  | k + 1, v, n, m, hv, hn, hm, h => by
    have ih := canon ho k (v + 1)
    have hl : ∀ a b, (tab F k (v + 1) a).length = (tab F k (v + 1) b).length := fun a b => by rw [tab_len, tab_len]
    by_cases c1 : 2 ≤ n ∧ (frk F n).1 = v <;> by_cases c2 : 2 ≤ m ∧ (frk F m).1 = v
    · rw [tab_at c1, tab_at c2] at h
      obtain ⟨e1, e2⟩ := List.append_inj h (hl _ _)
      have q1 := ih _ _ (by omega) (hn.lo ho c1) (hm.lo ho c2) e1
      have q2 := ih _ _ (by omega) (hn.hi ho c1) (hm.hi ho c2) e2
      refine ho.uniq n m c1.1 hn.2.1 c2.1 hm.2.1 ?_
      exact Prod.ext (c1.2.trans c2.2.symm) (Prod.ext q1 q2)
    · rw [tab_at c1, tab_up c2] at h
      obtain ⟨e1, e2⟩ := List.append_inj h (hl _ _)
      have q1 := ih _ _ (by omega) (hn.lo ho c1) (hm.up ho hv c2) e1
      have q2 := ih _ _ (by omega) (hn.hi ho c1) (hm.up ho hv c2) e2
      exact absurd (q1.trans q2.symm) (ho.ne n c1.1 hn.2.1)
    · rw [tab_up c1, tab_at c2] at h
      obtain ⟨e1, e2⟩ := List.append_inj h (hl _ _)
      have q1 := ih _ _ (by omega) (hn.up ho hv c1) (hm.lo ho c2) e1
      have q2 := ih _ _ (by omega) (hn.up ho hv c1) (hm.hi ho c2) e2
      exact absurd (q1.symm.trans q2) (ho.ne m c2.1 hm.2.1)
    · rw [tab_up c1, tab_up c2] at h
      obtain ⟨e1, e2⟩ := List.append_inj h (hl _ _)
      exact ih _ _ (by omega) (hn.up ho hv c1) (hm.up ho hv c2) e1

/-! ### What is there stays -/
theorem frk_app {F l : List T3} {n : Int} (h0 : 0 ≤ n) (h : n < F.length) : frk (F ++ l) n = frk F n := by
  unfold frk
  rw [List.getD_eq_getElem?_getD, List.getD_eq_getElem?_getD, List.getElem?_append_left (by omega)]
theorem top_app {vars} {F l : List T3} {n : Int} (h : n < F.length) : top vars (F ++ l) n = top vars F n := by
  unfold top
  split
  · rfl
  · rw [frk_app (by omega) h]
theorem In.app {vars F v n} (l : List T3) (h : In vars F v n) : In vars (F ++ l) v n :=
  ⟨h.1, by have := h.2.1; simp; omega, by rw [top_app h.2.1]; exact h.2.2⟩
theorem tab_app {vars F} (ho : Ok vars F) (l : List T3) : ∀ (k : Nat) (v n : Int), 0 ≤ n → n < F.length → tab (F ++ l) k v n = tab F k v n
  | 0, v, n, _, _ => rfl
  | k + 1, v, n, h0, h => by
    simp only [tab, frk_app h0 h]
    split
    · rename_i c
      obtain ⟨a, b, _⟩ := ho.low n c.1 h
      obtain ⟨a', b', _⟩ := ho.high n c.1 h
      rw [tab_app ho l k _ _ a (by omega), tab_app ho l k _ _ a' (by omega)]
    · rw [tab_app ho l k _ _ h0 h]

/-! ### What is put -/
def fnd : List T3 → T3 → Int → Option Int
  | [], _, _ => none
  | y :: r, x, i => if y = x then some i else fnd r x (i + 1)
theorem fnd_some : ∀ {l : List T3} {x : T3} {i n : Int}, fnd l x i = some n → i ≤ n ∧ n < i + l.length ∧ l.getD (n - i).toNat (0, 0, 0) = x
  | [], x, i, n, h => by simp [fnd] at h
  | y :: r, x, i, n, h => by
    simp only [fnd] at h
    split at h
    · rename_i e
      simp at h; subst h
      simp [e]; omega
    · obtain ⟨a, b, c⟩ := fnd_some h
      refine ⟨by omega, by simp; omega, ?_⟩
      have : (n - i).toNat = (n - (i + 1)).toNat + 1 := by omega
      rw [this]; simpa using c
theorem fnd_none : ∀ {l : List T3} {x : T3} {i : Int}, fnd l x i = none → ∀ j : Nat, j < l.length → l.getD j (0, 0, 0) ≠ x
  | [], x, i, h, j, hj => by simp at hj
  | y :: r, x, i, h, j, hj => by
    simp only [fnd] at h
    split at h
    · simp at h
    · rename_i e
      cases j with
      | zero => simpa using e
      | succ j => simpa using fnd_none h j (by simpa using hj)
def find (F : List T3) (x : T3) : Option Int := fnd (F.drop 2) x 2
theorem getD_drop (F : List T3) (i : Nat) : (F.drop 2).getD i (0, 0, 0) = F.getD (2 + i) (0, 0, 0) := by
  simp [List.getD_eq_getElem?_getD]
theorem find_some {F x n} (h : find F x = some n) : 2 ≤ n ∧ n < F.length ∧ frk F n = x := by
  obtain ⟨a, b, c⟩ := fnd_some h
  rw [getD_drop] at c
  simp only [List.length_drop] at b
  refine ⟨a, by omega, ?_⟩
  unfold frk
  rw [← c]; congr 1; omega
theorem find_none {F x} (h : find F x = none) (n : Int) (h2 : 2 ≤ n) (hn : n < F.length) : frk F n ≠ x := by
  have := fnd_none h (n.toNat - 2) (by simp; omega)
  rw [getD_drop] at this
  unfold frk
  rwa [show 2 + (n.toNat - 2) = n.toNat by omega] at this
theorem find_eq {vars F} (ho : Ok vars F) {n : Int} (h2 : 2 ≤ n) (hn : n < F.length) {x} (hx : frk F n = x) : find F x = some n := by
  cases h : find F x with
  | none => exact absurd hx (find_none h n h2 hn)
  | some m =>
    obtain ⟨a, b, c⟩ := find_some h
    rw [ho.uniq n m h2 hn a b (hx.trans c.symm)]
def put : Nat → List T3 → Int → List Bool → List T3 × Int
  | 0, F, _, t => (F, if t.headD false then 1 else 0)
  | k + 1, F, v, t =>
    if t.take (2 ^ k) = t.drop (2 ^ k) then put k F (v + 1) (t.take (2 ^ k))
    else
      let a := put k F (v + 1) (t.take (2 ^ k))
      let b := put k a.1 (v + 1) (t.drop (2 ^ k))
      match find b.1 (v, a.2, b.2) with
      | some i => (b.1, i)
      | none => (b.1 ++ [(v, a.2, b.2)], b.1.length)
theorem put_same {k F v t} (h : t.length = 2 ^ k) : put (k + 1) F v (t ++ t) = put k F (v + 1) t := by
  simp only [put]
  rw [List.take_left' h, List.drop_left' h, if_pos rfl]
theorem put_two {k F v s t} (h : s.length = 2 ^ k) (hne : s ≠ t) : put (k + 1) F v (s ++ t) =
    (match find (put k (put k F (v + 1) s).1 (v + 1) t).1 (v, (put k F (v + 1) s).2, (put k (put k F (v + 1) s).1 (v + 1) t).2) with
      | some i => ((put k (put k F (v + 1) s).1 (v + 1) t).1, i)
      | none => ((put k (put k F (v + 1) s).1 (v + 1) t).1 ++ [(v, (put k F (v + 1) s).2, (put k (put k F (v + 1) s).1 (v + 1) t).2)], ((put k (put k F (v + 1) s).1 (v + 1) t).1.length : Int))) := by
  simp only [put]
  rw [List.take_left' h, List.drop_left' h, if_neg hne]
theorem put_present {vars F} (ho : Ok vars F) : ∀ (k : Nat) (v n : Int), v + k = vars → In vars F v n → put k F v (tab F k v n) = (F, n)
  | 0, v, n, hv, hn => by
    have e : v = vars := by omega
    subst e
    rcases hn.end ho with rfl | rfl <;> simp [put, tab]
  | k + 1, v, n, hv, hn => by
    by_cases c : 2 ≤ n ∧ (frk F n).1 = v
    · rw [tab_at c, put_two (tab_len ..)]
      · have h1 := put_present ho k (v + 1) _ (by omega) (hn.lo ho c)
        have h2 := put_present ho k (v + 1) _ (by omega) (hn.hi ho c)
        simp only [h1, h2]
        rw [find_eq ho c.1 hn.2.1 (x := (v, (frk F n).2.1, (frk F n).2.2)) (by rw [← c.2])]
      · intro e
        exact ho.ne n c.1 hn.2.1 (canon ho k (v + 1) _ _ (by omega) (hn.lo ho c) (hn.hi ho c) e)
    · rw [tab_up c, put_same (tab_len ..)]
      exact put_present ho k (v + 1) n (by omega) (hn.up ho hv c)
theorem Ok.push {vars F} (ho : Ok vars F) {v lo hi : Int} (hv0 : 0 ≤ v) (hv : v < vars) (hne : lo ≠ hi) (h1 : In vars F (v + 1) lo) (h2 : In vars F (v + 1) hi) (hf : find F (v, lo, hi) = none) :
    Ok vars (F ++ [(v, lo, hi)]) ∧ frk (F ++ [(v, lo, hi)]) F.length = (v, lo, hi) := by
  have hlast : frk (F ++ [(v, lo, hi)]) F.length = (v, lo, hi) := by simp [frk, List.getD_eq_getElem?_getD]
  refine ⟨?_, hlast⟩
  have split : ∀ i : Int, 2 ≤ i → i < (F ++ [(v, lo, hi)]).length → (i < F.length ∧ frk (F ++ [(v, lo, hi)]) i = frk F i) ∨ (i = F.length ∧ frk (F ++ [(v, lo, hi)]) i = (v, lo, hi)) := fun i a b => by
    simp at b
    by_cases c : i < F.length
    · exact .inl ⟨c, frk_app (by omega) c⟩
    · have e : i = F.length := by omega
      subst e; exact .inr ⟨rfl, hlast⟩
  refine ⟨by have := ho.two; simp; omega, ho.lo, fun i a b => ?_, fun i a b => ?_, fun i a b => ?_, fun i a b => ?_, fun i j a b c d e => ?_⟩
  · rcases split i a b with ⟨q, e⟩ | ⟨q, e⟩ <;> rw [e]
    · exact ho.var i a q
    · exact ⟨hv0, hv⟩
  · rcases split i a b with ⟨q, e⟩ | ⟨q, e⟩ <;> rw [e]
    · exact ho.ne i a q
    · exact hne
  · rcases split i a b with ⟨q, e⟩ | ⟨q, e⟩ <;> rw [e]
    · obtain ⟨x, y, z⟩ := ho.low i a q
      exact ⟨x, y, by rw [top_app (by omega)]; exact z⟩
    · exact ⟨h1.1, by have := h1.2.1; subst q; exact this, by rw [top_app h1.2.1]; have := h1.2.2; show v < _; omega⟩
  · rcases split i a b with ⟨q, e⟩ | ⟨q, e⟩ <;> rw [e]
    · obtain ⟨x, y, z⟩ := ho.high i a q
      exact ⟨x, y, by rw [top_app (by omega)]; exact z⟩
    · exact ⟨h2.1, by have := h2.2.1; subst q; exact this, by rw [top_app h2.2.1]; have := h2.2.2; show v < _; omega⟩
  · rcases split i a b with ⟨q, e1⟩ | ⟨q, e1⟩ <;> rcases split j c d with ⟨q', e2⟩ | ⟨q', e2⟩ <;> rw [e1, e2] at e
    · exact ho.uniq i j a q c q' e
    · exact absurd e (find_none hf i a q)
    · exact absurd e.symm (find_none hf j c q')
    · omega
theorem two_pow_pos' (k : Nat) : 1 ≤ 2 ^ k := Nat.one_le_two_pow
structure Put (vars : Int) (F : List T3) (k : Nat) (v : Int) (t : List Bool) (r : List T3 × Int) : Prop where
  ok : Ok vars r.1
  pre : ∃ l, r.1 = F ++ l
  inn : In vars r.1 v r.2
  tab : tab r.1 k v r.2 = t
  len : r.1.length + 1 ≤ F.length + 2 ^ k
  last : r.1 = F ∨ r.2 = r.1.length - 1
  new : ∀ i : Int, F.length ≤ i → i < r.1.length → v ≤ (frk r.1 i).1
theorem put_ok {vars} : ∀ (k : Nat) (F : List T3) (v : Int) (t : List Bool), Ok vars F → 0 ≤ v → v + k = vars → t.length = 2 ^ k → Put vars F k v t (put k F v t)
  | 0, F, v, t, ho, hv0, hv, ht => by
    obtain ⟨b, rfl⟩ : ∃ b, t = [b] := by
      match t, ht with
      | [b], _ => exact ⟨b, rfl⟩
    have h2 := ho.two
    refine ⟨ho, ⟨[], by simp [put]⟩, ?_, ?_, by simp [put], .inl rfl, fun i a b => by simp only [put] at b; omega⟩
    · cases b <;> refine ⟨by simp [put], by simp [put]; omega, by simp [put, top]; omega⟩
    · cases b <;> simp [put, Bd.tab]
  | k + 1, F, v, t, ho, hv0, hv, ht => by
    have hp := two_pow_pos' k
    have he : t = t.take (2 ^ k) ++ t.drop (2 ^ k) := (List.take_append_drop _ _).symm
    have l1 : (t.take (2 ^ k)).length = 2 ^ k := by rw [List.length_take, ht]; omega
    have l2 : (t.drop (2 ^ k)).length = 2 ^ k := by rw [List.length_drop, ht]; omega
    generalize t.take (2 ^ k) = s1 at *
    generalize t.drop (2 ^ k) = s2 at *
    subst he
    have up : ∀ {F n}, In vars F (v + 1) n → Ok vars F → tab F (k + 1) v n = tab F k (v + 1) n ++ tab F k (v + 1) n := fun {F n} h ho => by
      refine tab_up fun c => ?_
      have := h.2.2
      unfold top at this
      rw [if_neg (by omega)] at this
      omega
    by_cases hs : s1 = s2
    · subst hs
      rw [put_same l1]
      have p := put_ok k F (v + 1) s1 ho (by omega) (by omega) l1
      exact ⟨p.ok, p.pre, ⟨p.inn.1, p.inn.2.1, by have := p.inn.2.2; omega⟩, by rw [up p.inn p.ok, p.tab], by have := p.len; omega, p.last, fun i a b => by have := p.new i a b; omega⟩
    · rw [put_two l1 hs]
      have p := put_ok k F (v + 1) s1 ho (by omega) (by omega) l1
      generalize ha : put k F (v + 1) s1 = a at *
      have q := put_ok k a.1 (v + 1) s2 p.ok (by omega) (by omega) l2
      generalize hb : put k a.1 (v + 1) s2 = b at *
      obtain ⟨la, ea⟩ := p.pre
      obtain ⟨lb, eb⟩ := q.pre
      have ia : In vars b.1 (v + 1) a.2 := by rw [eb]; exact p.inn.app lb
      have ta : Bd.tab b.1 k (v + 1) a.2 = s1 := by rw [eb, tab_app p.ok _ _ _ _ p.inn.1 p.inn.2.1, p.tab]
      have hlen := p.len
      have hlen' := q.len
      cases hf : find b.1 (v, a.2, b.2) with
      | some i =>
        obtain ⟨f1, f2, f3⟩ := find_some hf
        refine ⟨q.ok, ⟨la ++ lb, by rw [eb, ea, List.append_assoc]⟩, ⟨by show 0 ≤ i; omega, f2, by show v ≤ top vars b.1 i; unfold top; rw [if_neg (by omega), f3]; exact Int.le_refl v⟩, ?_, by show b.1.length + 1 ≤ _; omega, ?_, ?_⟩
        · show Bd.tab b.1 (k + 1) v i = _
          rw [tab_at ⟨f1, by rw [f3]⟩, f3]
          show Bd.tab b.1 k (v + 1) a.2 ++ Bd.tab b.1 k (v + 1) b.2 = _
          rw [ta, q.tab]
        · refine .inl ?_
          show b.1 = F
          have hiF : i < F.length := by
            rcases Int.lt_or_le i F.length with h | h
            · exact h
            · exfalso
              by_cases hia : i < a.1.length
              · have := p.new i h hia
                have e : frk b.1 i = frk a.1 i := by rw [eb]; exact frk_app (by omega) hia
                rw [← e, f3] at this
                simp only at this
                omega
              · have := q.new i (by omega) f2
                rw [f3] at this
                simp only at this
                omega
          have hFb : b.1 = F ++ (la ++ lb) := by rw [eb, ea, List.append_assoc]
          have htab : Bd.tab F (k + 1) v i = s1 ++ s2 := by
            rw [← tab_app ho (la ++ lb) _ _ _ (by omega) hiF, ← hFb, tab_at ⟨f1, by rw [f3]⟩, f3]
            show Bd.tab b.1 k (v + 1) a.2 ++ Bd.tab b.1 k (v + 1) b.2 = _
            rw [ta, q.tab]
          have hin : In vars F v i := ⟨by omega, hiF, by
            have : frk b.1 i = frk F i := by rw [hFb]; exact frk_app (by omega) hiF
            unfold top; rw [if_neg (by omega), ← this, f3]; exact Int.le_refl v⟩
          have hpp := put_present ho (k + 1) v i hv hin
          rw [htab, put_two l1 hs, ha, hb, hf] at hpp
          exact (Prod.mk.inj hpp).1
        · intro j h1 h2
          show v ≤ (frk b.1 j).1
          by_cases hia : j < a.1.length
          · have := p.new j h1 hia
            have e : frk b.1 j = frk a.1 j := by rw [eb]; exact frk_app (by omega) hia
            rw [e]; omega
          · have := q.new j (by omega) h2
            omega
      | none =>
        have hne : a.2 ≠ b.2 := fun e => by
          apply hs
          rw [← ta, e, q.tab]
        obtain ⟨o1, o2⟩ := q.ok.push hv0 (by omega) hne ia q.inn hf
        refine ⟨o1, ⟨la ++ lb ++ [(v, a.2, b.2)], by show b.1 ++ _ = _; rw [eb, ea]; simp⟩, ⟨by show (0 : Int) ≤ b.1.length; omega, by simp; omega, ?_⟩, ?_, by simp; omega, .inr (by simp), ?_⟩
        · show v ≤ top vars _ (b.1.length : Int)
          have := q.ok.two
          unfold top
          rw [if_neg (by omega), o2]
          exact Int.le_refl v
        · show Bd.tab (b.1 ++ [(v, a.2, b.2)]) (k + 1) v b.1.length = _
          have := q.ok.two
          rw [tab_at ⟨by omega, by rw [o2]⟩, o2]
          show Bd.tab _ k (v + 1) a.2 ++ Bd.tab _ k (v + 1) b.2 = _
          rw [tab_app q.ok _ _ _ _ ia.1 ia.2.1, tab_app q.ok _ _ _ _ q.inn.1 q.inn.2.1, ta, q.tab]
        · intro j h1 h2
          show v ≤ (frk (b.1 ++ [(v, a.2, b.2)]) j).1
          by_cases hj : j < b.1.length
          · rw [frk_app (by omega) hj]
            by_cases hia : j < a.1.length
            · have := p.new j h1 hia
              have e : frk b.1 j = frk a.1 j := by rw [eb]; exact frk_app (by omega) hia
              rw [e]; omega
            · have := q.new j (by omega) hj
              omega
          · have e : j = b.1.length := by simp at h2; omega
            rw [e, o2]; exact Int.le_refl v
end Fil.Bd

