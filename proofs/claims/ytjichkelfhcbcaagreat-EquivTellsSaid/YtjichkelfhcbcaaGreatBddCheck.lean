/- bdd: plain models: which diagrams may be. No program in sight. -/
import Derived.Test.YtjichkelfhcbcaaGreatEqzAigS
set_option linter.unusedSimpArgs false
set_option linter.unusedVariables false
namespace Go.Proofs.YtjichkelfhcbcaaGreat.A
open Abs Fil
theorem ref_and (g : Aig) (p q : Int) (σ : Sig) (hf : Fine g) (hp : g.lit p = true) (hq : g.lit q = true) :
    ACalls Tryz.prog 68 [encAig g, .int .i64 p, .int .i64 q] σ (fun r σ' => r = .ret (.tup [encAig (Aig.endW (g.andW 0 p q)).1, .int .i64 (Aig.endW (g.andW 0 p q)).2.1, .int .i64 (Aig.endW (g.andW 0 p q)).2.2]) ∧ σ' = σ) := by
  refine calls_x mixed Tryz.func68 b68 n68 rfl q68 (by simp) ?_; unfold c68 r68
  have hs := hf.toSmall
  have hcn := hf.cnt
  have hlo := hf.lo
  have hhi := hf.hi
  have hfl := hs.flops
  have hal := hs.ands
  have hp' := litN_iff.1 hp
  have hq' := litN_iff.1 hq
  have hcd : g.ins + g.flops.length + g.ands.length ≤ 65536 := hcn
  have hc0 : 0 ≤ g.count := by unfold Aig.count; omega
  have hfb := idxF_bounds (fun x : Int × Int => decide (min x.1 x.2 = min p q) && decide (max x.1 x.2 = max p q)) g.ands
  have hfe : g.find (min p q) (max p q) = idxF (fun x : Int × Int => decide (min x.1 x.2 = min p q) && decide (max x.1 x.2 = max p q)) g.ands := rfl
  rw [← hfe] at hfb
  by_cases c1 : min p q = 0 ∨ min p q = turn (max p q)
  · rw [andW1 c1]
    clear hfe hcd
    repeat' (first | simp (maxDischargeDepth := 9) -implicitDefEqProofs -dsimp only [go_sem, seval, *] | simp (disch := omega) only [wrap64, xor_is1] | (with_reducible (first | apply Zc | apply Ze | apply Zl | apply Zs) <;> intro hq) | ((with_reducible refine Zv ?_ ?_); focus (first | omega | exact rfl)) | ((with_reducible refine Zt (fun oF hoF hnF hnF' => ?_)); (try simp only [upd_none, ne_eq, not_and] at hoF)))
    all_goals first | (exfalso; omega) | (refine fin_eq ?_; (repeat' (first | simp (maxDischargeDepth := 9) -implicitDefEqProofs -dsimp only [go_sem, seval, Aig.endW, *] | simp (disch := omega) only [wrap64, xor_is1])) <;> (repeat' refine And.intro ?_ ?_) <;> (first | omega | rfl | assumption | skip); done)
  by_cases c2 : min p q = 1 ∨ min p q = max p q
  · rw [andW2 c1 c2]
    clear hfe hcd
    repeat' (first | simp (maxDischargeDepth := 9) -implicitDefEqProofs -dsimp only [go_sem, seval, *] | simp (disch := omega) only [wrap64, xor_is1] | (with_reducible (first | apply Zc | apply Ze | apply Zl | apply Zs) <;> intro hq) | ((with_reducible refine Zv ?_ ?_); focus (first | omega | exact rfl)) | ((with_reducible refine Zt (fun oF hoF hnF hnF' => ?_)); (try simp only [upd_none, ne_eq, not_and] at hoF)))
    all_goals first | (exfalso; omega) | (refine fin_eq ?_; (repeat' (first | simp (maxDischargeDepth := 9) -implicitDefEqProofs -dsimp only [go_sem, seval, Aig.endW, *] | simp (disch := omega) only [wrap64, xor_is1])) <;> (repeat' refine And.intro ?_ ?_) <;> (first | omega | rfl | assumption | skip); done)
  by_cases c3 : 0 ≤ g.find (min p q) (max p q)
  · rw [andW3 c1 c2 c3]
    clear hfe hcd
    repeat' (first | simp (maxDischargeDepth := 9) -implicitDefEqProofs -dsimp only [go_sem, seval, ge_iff_le, *] | simp (disch := omega) only [wrap64, xor_is1] | (with_reducible (first | apply Zc | apply Ze | apply Zl | apply Zs) <;> intro hq) | ((with_reducible refine Zv ?_ ?_); focus (first | omega | exact rfl)) | ((with_reducible refine Zt (fun oF hoF hnF hnF' => ?_)); (try simp only [upd_none, ne_eq, not_and] at hoF)) | ((with_reducible apply ACalls.one1); (focus ((first | with_reducible refine ref_gate g (min p q) (max p q) _ hal ?_ | with_reducible refine ACalls.flA (ref_gate g (min p q) (max p q) _ hal ?_) ?_) <;> (first | (simp (maxDischargeDepth := 9) -implicitDefEqProofs -dsimp only [go_sem, seval, *]; done) | omega))); (focus (first | trivial | with_reducible exact rfl | (simp (maxDischargeDepth := 9) -implicitDefEqProofs -dsimp only [go_sem, seval]; done)))))
    all_goals first | (exfalso; omega) | skip
    refine fin_eq ?_
    (repeat' (first | simp (maxDischargeDepth := 9) -implicitDefEqProofs -dsimp only [go_sem, seval, Aig.endW, Aig.first, *] | simp (disch := omega) only [wrap64, xor_is1])) <;> (repeat' refine And.intro ?_ ?_) <;> (first | omega | rfl | assumption | skip)
  by_cases c4 : g.count = 65536
  · rw [andW4 c1 c2 c3 c4]
    have c4' : g.ins + g.flops.length + g.ands.length = 65536 := c4
    clear hfe hcd
    repeat' (first | simp (maxDischargeDepth := 9) -implicitDefEqProofs -dsimp only [go_sem, seval, ge_iff_le, *] | simp (disch := omega) only [wrap64, xor_is1] | (with_reducible (first | apply Zc | apply Ze | apply Zl | apply Zs) <;> intro hq) | ((with_reducible refine Zv ?_ ?_); focus (first | omega | exact rfl)) | ((with_reducible refine Zt (fun oF hoF hnF hnF' => ?_)); (try simp only [upd_none, ne_eq, not_and] at hoF)) | ((with_reducible apply ACalls.one1); (focus ((first | with_reducible refine ref_gate g (min p q) (max p q) _ hal ?_ | with_reducible refine ACalls.flA (ref_gate g (min p q) (max p q) _ hal ?_) ?_) <;> (first | (simp (maxDischargeDepth := 9) -implicitDefEqProofs -dsimp only [go_sem, seval, *]; done) | omega))); (focus (first | trivial | with_reducible exact rfl | (simp (maxDischargeDepth := 9) -implicitDefEqProofs -dsimp only [go_sem, seval]; done)))))
    all_goals first | (exfalso; omega) | (refine fin_eq ?_; (repeat' (first | simp (maxDischargeDepth := 9) -implicitDefEqProofs -dsimp only [go_sem, seval, Aig.endW, *] | simp (disch := omega) only [wrap64, xor_is1])) <;> (repeat' refine And.intro ?_ ?_) <;> (first | omega | rfl | assumption | skip); done)
  · rw [andW5 c1 c2 c3 c4]
    have c4' : g.ins + g.flops.length + g.ands.length < 65536 := by unfold Aig.count at c4; omega
    have hsm := (andO_some hf hp hq (g' := { g with ands := g.ands ++ [(min p q, max p q)] }) (x := 2 * (g.count + 1)) (by simp only [Aig.andO, c1, c2, c3, c4, if_false])).1.toSmall
    have hcp := count_push (g := g) (min p q, max p q)
    clear hfe hcd
    repeat' (first | simp (maxDischargeDepth := 9) -implicitDefEqProofs -dsimp only [go_sem, seval, ge_iff_le, *] | simp (disch := omega) only [wrap64, xor_is1] | (with_reducible (first | apply Zc | apply Ze | apply Zl | apply Zs) <;> intro hq) | ((with_reducible refine Zv ?_ ?_); focus (first | omega | exact rfl)) | ((with_reducible refine Zt (fun oF hoF hnF hnF' => ?_)); (try simp only [upd_none, ne_eq, not_and] at hoF)) | ((with_reducible apply ACalls.one1); (focus ((first | with_reducible refine ref_gate g (min p q) (max p q) _ hal ?_ | with_reducible refine ref_Count { g with ands := g.ands ++ [(min p q, max p q)] } _ hsm | with_reducible refine ACalls.flA (ref_gate g (min p q) (max p q) _ hal ?_) ?_ | with_reducible refine ACalls.flA (ref_Count { g with ands := g.ands ++ [(min p q, max p q)] } _ hsm) ?_) <;> (first | (simp (maxDischargeDepth := 9) -implicitDefEqProofs -dsimp only [go_sem, seval, *]; done) | omega))); (focus (first | trivial | with_reducible exact rfl | (simp (maxDischargeDepth := 9) -implicitDefEqProofs -dsimp only [go_sem, seval]; done)))) | ((with_reducible apply id_one0); (focus (intro tS hS; ((first | with_reducible refine ref_gate g (min p q) (max p q) _ hal ?_ | with_reducible refine ref_Count { g with ands := g.ands ++ [(min p q, max p q)] } _ hsm | with_reducible refine ACalls.flA (ref_gate g (min p q) (max p q) _ hal ?_) ?_ | with_reducible refine ACalls.flA (ref_Count { g with ands := g.ands ++ [(min p q, max p q)] } _ hsm) ?_) <;> (first | (simp (maxDischargeDepth := 9) -implicitDefEqProofs -dsimp only [go_sem, seval, *]; done) | omega | ((with_reducible refine Sub.get hS ?_); simp (maxDischargeDepth := 9) -implicitDefEqProofs -dsimp only [go_sem, seval, *]; done))))); (focus (first | trivial | (simp (maxDischargeDepth := 9) -implicitDefEqProofs -dsimp only [go_sem, seval, *]; done)))))
    all_goals first | (exfalso; omega) | skip
    all_goals
      refine fin_eq ?_
      (repeat' (first | simp (maxDischargeDepth := 9) -implicitDefEqProofs -dsimp only [go_sem, seval, Aig.endW, *] | simp (disch := omega) only [wrap64, xor_is1])) <;> (repeat' refine And.intro ?_ ?_) <;> (first | omega | rfl | assumption | skip)
theorem ref_or (g : Aig) (a b : Int) (σ : Sig) (hf : Fine g) (ha : g.lit a = true) (hb : g.lit b = true) :
    ACalls Tryz.prog 97 [encAig g, .int .i64 a, .int .i64 b] σ (fun r σ' => r = .ret (.tup [encAig (Aig.endW (g.orW 0 a b)).1, .int .i64 (Aig.endW (g.orW 0 a b)).2.1, .int .i64 (Aig.endW (g.orW 0 a b)).2.2]) ∧ σ' = σ) := by
  refine calls_x mixed Tryz.func97 b97 n97 rfl q97 (by simp) ?_; unfold c97 r97
  have hcn := hf.cnt
  have ha' := litN_iff.1 ha
  have hb' := litN_iff.1 hb
  have hr := andW_range (g := g) (e := 0) (p := turn a) (q := turn b) (fun _ => ⟨hf, turn_lit ha, turn_lit hb⟩)
  obtain ⟨hr1, hr2⟩ := hr
  have ta : g.lit (turn a) = true := turn_lit ha
  have tb : g.lit (turn b) = true := turn_lit hb
  by_cases he : (g.andW 0 (turn a) (turn b)).2.1 = 0
  · have e1 := endW_ok he
    have e2 := endW_or (g := g) (a := a) (b := b) he
    repeat' (first | simp (maxDischargeDepth := 9) -implicitDefEqProofs -dsimp only [go_sem, seval, *] | simp (disch := omega) only [xor1] | ((with_reducible refine Zt (fun oF hoF hnF hnF' => ?_)); (try simp only [upd_none, ne_eq, not_and] at hoF)) | ((with_reducible apply ACalls.one1); (focus ((first | with_reducible refine ref_and g (turn a) (turn b) _ hf ta tb) <;> (first | (simp (maxDischargeDepth := 9) -implicitDefEqProofs -dsimp only [go_sem, seval, *]; done) | omega))); (focus (first | trivial | with_reducible exact rfl | (simp (maxDischargeDepth := 9) -implicitDefEqProofs -dsimp only [go_sem, seval]; done)))))
    refine fin_eq ?_
    (repeat' (first | simp (maxDischargeDepth := 9) -implicitDefEqProofs -dsimp only [go_sem, seval, *] | simp (disch := omega) only [xor1])) <;> (repeat' refine And.intro ?_ ?_) <;> (first | omega | rfl | assumption | skip)
  · have e1 := endW_err he
    have e2 := endW_or' (g := g) (a := a) (b := b) he
    have hb : ((g.andW 0 (turn a) (turn b)).2.1 != 0) = true := by simpa using he
    repeat' (first | simp (maxDischargeDepth := 9) -implicitDefEqProofs -dsimp only [go_sem, seval, *] | simp (disch := omega) only [xor1] | ((with_reducible refine Zt (fun oF hoF hnF hnF' => ?_)); (try simp only [upd_none, ne_eq, not_and] at hoF)) | ((with_reducible apply ACalls.one1); (focus ((first | with_reducible refine ref_and g (turn a) (turn b) _ hf ta tb) <;> (first | (simp (maxDischargeDepth := 9) -implicitDefEqProofs -dsimp only [go_sem, seval, *]; done) | omega))); (focus (first | trivial | with_reducible exact rfl | (simp (maxDischargeDepth := 9) -implicitDefEqProofs -dsimp only [go_sem, seval]; done)))))
    refine fin_eq ?_
    (repeat' (first | simp (maxDischargeDepth := 9) -implicitDefEqProofs -dsimp only [go_sem, seval, *] | simp (disch := omega) only [xor1])) <;> (repeat' refine And.intro ?_ ?_) <;> (first | omega | rfl | assumption | skip)
theorem ref_pairs (g : Aig) (a b c d : Int) (σ : Sig) (hf : Fine g) (ha : g.lit a = true) (hb : g.lit b = true) (hc : g.lit c = true) (hd : g.lit d = true) :
    ACalls Tryz.prog 96 [encAig g, .int .i64 a, .int .i64 b, .int .i64 c, .int .i64 d] σ (fun r σ' => r = .ret (.tup [encAig (Aig.endW (g.pairs 0 a b c d)).1, .int .i64 (Aig.endW (g.pairs 0 a b c d)).2.1, .int .i64 (Aig.endW (g.pairs 0 a b c d)).2.2]) ∧ σ' = σ) := by
  refine calls_x mixed Tryz.func96 b96 n96 rfl q96 (by simp) ?_; unfold c96 r96
  obtain ⟨k1, k2, _⟩ := andW_ok (g := g) (e := 0) (p := a) (q := b) (fun _ => ⟨hf, ha, hb⟩)
  obtain ⟨r, hr⟩ : ∃ r, g.andW 0 a b = r := ⟨_, rfl⟩
  rw [hr] at k1 k2
  by_cases he : r.2.1 = 0
  · have e1 := endW_ok he
    have hfr := (k1 he).1
    have lc := k2.lit hc
    have ld := k2.lit hd
    obtain ⟨m1, m2, _⟩ := andW_ok (g := r.1) (e := 0) (p := c) (q := d) (fun _ => ⟨hfr, lc, ld⟩)
    obtain ⟨s, hs⟩ : ∃ s, r.1.andW 0 c d = s := ⟨_, rfl⟩
    rw [hs] at m1 m2
    have hp : g.pairs 0 a b c d = s.1.orW s.2.1 r.2.2 s.2.2 := by simp only [Aig.pairs, hr, he, hs]
    by_cases he2 : s.2.1 = 0
    · have e2 := endW_ok he2
      have hfs := (m1 he2).1
      have l1 := m2.lit (k1 he).2
      have l2 := (m1 he2).2
      have ez : ((0 : Int) != 0) = false := by decide
      repeat' (first | simp (maxDischargeDepth := 9) -implicitDefEqProofs -dsimp only [go_sem, seval, *] | ((with_reducible refine Zt (fun oF hoF hnF hnF' => ?_)); (try simp only [upd_none, ne_eq, not_and] at hoF)) | ((with_reducible apply ACalls.one1); (focus ((first | with_reducible refine ref_and g a b _ hf ha hb | with_reducible refine ref_and r.1 c d _ hfr lc ld | with_reducible refine ref_or s.1 r.2.2 s.2.2 _ hfs l1 l2) <;> (first | (simp (maxDischargeDepth := 9) -implicitDefEqProofs -dsimp only [go_sem, seval, *]; done) | omega))); (focus (first | trivial | with_reducible exact rfl | (simp (maxDischargeDepth := 9) -implicitDefEqProofs -dsimp only [go_sem, seval]; done)))))
      refine fin_eq ?_
      (repeat' (first | simp (maxDischargeDepth := 9) -implicitDefEqProofs -dsimp only [go_sem, seval, *])) <;> (repeat' refine And.intro ?_ ?_) <;> (first | omega | rfl | assumption | skip)
    · have e2 := endW_err he2
      have hp2 : Aig.endW (s.1.orW s.2.1 r.2.2 s.2.2) = (⟨0, [], [], []⟩, 0, s.2.1) := by
        have h' : s.1.orW s.2.1 r.2.2 s.2.2 = (s.1, s.2.1, turn 0) := by simp only [Aig.orW, andW_none he2]
        rw [h']; exact endW_err he2
      have hb2 : (s.2.1 != 0) = true := by simpa using he2
      have ez : ((0 : Int) != 0) = false := by decide
      repeat' (first | simp (maxDischargeDepth := 9) -implicitDefEqProofs -dsimp only [go_sem, seval, *] | ((with_reducible refine Zt (fun oF hoF hnF hnF' => ?_)); (try simp only [upd_none, ne_eq, not_and] at hoF)) | ((with_reducible apply ACalls.one1); (focus ((first | with_reducible refine ref_and g a b _ hf ha hb | with_reducible refine ref_and r.1 c d _ hfr lc ld) <;> (first | (simp (maxDischargeDepth := 9) -implicitDefEqProofs -dsimp only [go_sem, seval, *]; done) | omega))); (focus (first | trivial | with_reducible exact rfl | (simp (maxDischargeDepth := 9) -implicitDefEqProofs -dsimp only [go_sem, seval]; done)))))
      refine fin_eq ?_
      (repeat' (first | simp (maxDischargeDepth := 9) -implicitDefEqProofs -dsimp only [go_sem, seval, *])) <;> (repeat' refine And.intro ?_ ?_) <;> (first | omega | rfl | assumption | skip)
  · have e1 := endW_err he
    have hp : Aig.endW (g.pairs 0 a b c d) = (⟨0, [], [], []⟩, 0, r.2.1) := by
      have : g.pairs 0 a b c d = (r.1, r.2.1, turn 0) := by
        simp only [Aig.pairs, hr, andW_none he, Aig.orW]
      rw [this]
      exact endW_err he
    have hb2 : (r.2.1 != 0) = true := by simpa using he
    repeat' (first | simp (maxDischargeDepth := 9) -implicitDefEqProofs -dsimp only [go_sem, seval, *] | ((with_reducible refine Zt (fun oF hoF hnF hnF' => ?_)); (try simp only [upd_none, ne_eq, not_and] at hoF)) | ((with_reducible apply ACalls.one1); (focus ((first | with_reducible refine ref_and g a b _ hf ha hb) <;> (first | (simp (maxDischargeDepth := 9) -implicitDefEqProofs -dsimp only [go_sem, seval, *]; done) | omega))); (focus (first | trivial | with_reducible exact rfl | (simp (maxDischargeDepth := 9) -implicitDefEqProofs -dsimp only [go_sem, seval]; done)))))
    refine fin_eq ?_
    (repeat' (first | simp (maxDischargeDepth := 9) -implicitDefEqProofs -dsimp only [go_sem, seval, *])) <;> (repeat' refine And.intro ?_ ?_) <;> (first | omega | rfl | assumption | skip)
theorem ref_And (g : Aig) (a b : Int) (σ : Sig) (hs : Wf g) :
    ACalls Tryz.prog 38 [encAig g, .int .i64 a, .int .i64 b] σ (fun r σ' => r = .ret (.tup [encAig (g.And a b).1, .int .i64 (g.And a b).2.1, .int .i64 (g.And a b).2.2]) ∧ σ' = σ) := by
  refine calls_x mixed Tryz.func38 b38 n38 rfl q38 (by simp) ?_; unfold c38 r38
  obtain ⟨e, he⟩ : ∃ e, g.checkL g.check [a, b] = e := ⟨_, rfl⟩
  have hd : g.And a b = Aig.endW (g.andW e a b) := by rw [← he]; rfl
  by_cases h0 : e = 0
  · subst h0
    obtain ⟨hf, hl⟩ := checkL_fine hs he
    have ha := hl a (by simp)
    have hb := hl b (by simp)
    have ez : ((0 : Int) != 0) = false := by decide
    clear hl
    repeat' (first | simp (maxDischargeDepth := 9) -implicitDefEqProofs -dsimp only [go_sem, seval, *] | ((with_reducible refine Zt (fun oF hoF hnF hnF' => ?_)); (try simp only [upd_none, ne_eq, not_and] at hoF)) | ((with_reducible apply ACalls.one1); (focus ((first | with_reducible refine ref_may g [a, b] _ hs ?_ | with_reducible refine ref_and g a b _ hf ha hb | with_reducible refine ACalls.flA (ref_may g [a, b] _ hs ?_) ?_ | with_reducible refine ACalls.flA (ref_and g a b _ hf ha hb) ?_) <;> (first | (simp (maxDischargeDepth := 9) -implicitDefEqProofs -dsimp only [go_sem, seval, *]; done) | omega))); (focus (first | trivial | with_reducible exact rfl | (simp (maxDischargeDepth := 9) -implicitDefEqProofs -dsimp only [go_sem, seval]; done)))))
    refine fin_eq ?_
    (repeat' (first | simp (maxDischargeDepth := 9) -implicitDefEqProofs -dsimp only [go_sem, seval, *])) <;> (repeat' refine And.intro ?_ ?_) <;> (first | omega | rfl | assumption | skip)
  · have hv : Aig.endW (g.andW e a b) = (⟨0, [], [], []⟩, 0, e) := by rw [andW_none h0]; exact endW_err h0
    have hb2 : (e != 0) = true := by simpa using h0
    repeat' (first | simp (maxDischargeDepth := 9) -implicitDefEqProofs -dsimp only [go_sem, seval, *] | ((with_reducible refine Zt (fun oF hoF hnF hnF' => ?_)); (try simp only [upd_none, ne_eq, not_and] at hoF)) | ((with_reducible apply ACalls.one1); (focus ((first | with_reducible refine ref_may g [a, b] _ hs ?_ | with_reducible refine ACalls.flA (ref_may g [a, b] _ hs ?_) ?_) <;> (first | (simp (maxDischargeDepth := 9) -implicitDefEqProofs -dsimp only [go_sem, seval, *]; done) | omega))); (focus (first | trivial | with_reducible exact rfl | (simp (maxDischargeDepth := 9) -implicitDefEqProofs -dsimp only [go_sem, seval]; done)))))
    refine fin_eq ?_
    (repeat' (first | simp (maxDischargeDepth := 9) -implicitDefEqProofs -dsimp only [go_sem, seval, *])) <;> (repeat' refine And.intro ?_ ?_) <;> (first | omega | rfl | assumption | skip)
theorem ref_Or (g : Aig) (a b : Int) (σ : Sig) (hs : Wf g) :
    ACalls Tryz.prog 70 [encAig g, .int .i64 a, .int .i64 b] σ (fun r σ' => r = .ret (.tup [encAig (g.Or a b).1, .int .i64 (g.Or a b).2.1, .int .i64 (g.Or a b).2.2]) ∧ σ' = σ) := by
  refine calls_x mixed Tryz.func70 b70 n70 rfl q70 (by simp) ?_; unfold c70 r70
  obtain ⟨e, he⟩ : ∃ e, g.checkL g.check [a, b] = e := ⟨_, rfl⟩
  have hd : g.Or a b = Aig.endW (g.orW e a b) := by rw [← he]; rfl
  by_cases h0 : e = 0
  · subst h0
    obtain ⟨hf, hl⟩ := checkL_fine hs he
    have ha := hl a (by simp)
    have hb := hl b (by simp)
    have ez : ((0 : Int) != 0) = false := by decide
    clear hl
    repeat' (first | simp (maxDischargeDepth := 9) -implicitDefEqProofs -dsimp only [go_sem, seval, *] | ((with_reducible refine Zt (fun oF hoF hnF hnF' => ?_)); (try simp only [upd_none, ne_eq, not_and] at hoF)) | ((with_reducible apply ACalls.one1); (focus ((first | with_reducible refine ref_may g [a, b] _ hs ?_ | with_reducible refine ref_or g a b _ hf ha hb | with_reducible refine ACalls.flA (ref_may g [a, b] _ hs ?_) ?_ | with_reducible refine ACalls.flA (ref_or g a b _ hf ha hb) ?_) <;> (first | (simp (maxDischargeDepth := 9) -implicitDefEqProofs -dsimp only [go_sem, seval, *]; done) | omega))); (focus (first | trivial | with_reducible exact rfl | (simp (maxDischargeDepth := 9) -implicitDefEqProofs -dsimp only [go_sem, seval]; done)))))
    refine fin_eq ?_
    (repeat' (first | simp (maxDischargeDepth := 9) -implicitDefEqProofs -dsimp only [go_sem, seval, *])) <;> (repeat' refine And.intro ?_ ?_) <;> (first | omega | rfl | assumption | skip)
  · have hv : Aig.endW (g.orW e a b) = (⟨0, [], [], []⟩, 0, e) := by
      have h' : g.orW e a b = (g, e, turn 0) := by simp only [Aig.orW, andW_none h0]
      rw [h']; exact endW_err h0
    have hb2 : (e != 0) = true := by simpa using h0
    repeat' (first | simp (maxDischargeDepth := 9) -implicitDefEqProofs -dsimp only [go_sem, seval, *] | ((with_reducible refine Zt (fun oF hoF hnF hnF' => ?_)); (try simp only [upd_none, ne_eq, not_and] at hoF)) | ((with_reducible apply ACalls.one1); (focus ((first | with_reducible refine ref_may g [a, b] _ hs ?_ | with_reducible refine ACalls.flA (ref_may g [a, b] _ hs ?_) ?_) <;> (first | (simp (maxDischargeDepth := 9) -implicitDefEqProofs -dsimp only [go_sem, seval, *]; done) | omega))); (focus (first | trivial | with_reducible exact rfl | (simp (maxDischargeDepth := 9) -implicitDefEqProofs -dsimp only [go_sem, seval]; done)))))
    refine fin_eq ?_
    (repeat' (first | simp (maxDischargeDepth := 9) -implicitDefEqProofs -dsimp only [go_sem, seval, *])) <;> (repeat' refine And.intro ?_ ?_) <;> (first | omega | rfl | assumption | skip)
theorem pairs_err {g : Aig} {e a b c d : Int} (h : e ≠ 0) : Aig.endW (g.pairs e a b c d) = (⟨0, [], [], []⟩, 0, e) := by
  have : g.pairs e a b c d = (g, e, turn 0) := by simp only [Aig.pairs, andW_none h, Aig.orW]
  rw [this]; exact endW_err h
theorem ref_Xor (g : Aig) (a b : Int) (σ : Sig) (hs : Wf g) (ia : I64 a) (ib : I64 b) :
    ACalls Tryz.prog 69 [encAig g, .int .i64 a, .int .i64 b] σ (fun r σ' => r = .ret (.tup [encAig (g.Xor a b).1, .int .i64 (g.Xor a b).2.1, .int .i64 (g.Xor a b).2.2]) ∧ σ' = σ) := by
  refine calls_x mixed Tryz.func69 b69 n69 rfl q69 (by simp) ?_; unfold c69 r69
  obtain ⟨ia1, ia2⟩ := ia
  obtain ⟨ib1, ib2⟩ := ib
  obtain ⟨e, he⟩ : ∃ e, g.checkL g.check [a, b] = e := ⟨_, rfl⟩
  have hd : g.Xor a b = Aig.endW (g.pairs e a (turn b) (turn a) b) := by rw [← he]; rfl
  by_cases h0 : e = 0
  · subst h0
    obtain ⟨hf, hl⟩ := checkL_fine hs he
    have ha := hl a (by simp)
    have hb := hl b (by simp)
    have ta : g.lit (turn a) = true := turn_lit ha
    have tb : g.lit (turn b) = true := turn_lit hb
    have ez : ((0 : Int) != 0) = false := by decide
    clear hl
    repeat' (first | simp (maxDischargeDepth := 9) -implicitDefEqProofs -dsimp only [go_sem, seval, *] | simp (disch := omega) only [xor1] | ((with_reducible refine Zt (fun oF hoF hnF hnF' => ?_)); (try simp only [upd_none, ne_eq, not_and] at hoF)) | ((with_reducible apply ACalls.one1); (focus ((first | with_reducible refine ref_may g [a, b] _ hs ?_ | with_reducible refine ref_pairs g a (turn b) (turn a) b _ hf ha tb ta hb | with_reducible refine ACalls.flA (ref_may g [a, b] _ hs ?_) ?_ | with_reducible refine ACalls.flA (ref_pairs g a (turn b) (turn a) b _ hf ha tb ta hb) ?_) <;> (first | (simp (maxDischargeDepth := 9) -implicitDefEqProofs -dsimp only [go_sem, seval, *]; done) | omega))); (focus (first | trivial | with_reducible exact rfl | (simp (maxDischargeDepth := 9) -implicitDefEqProofs -dsimp only [go_sem, seval]; done)))))
    refine fin_eq ?_
    (repeat' (first | simp (maxDischargeDepth := 9) -implicitDefEqProofs -dsimp only [go_sem, seval, *] | simp (disch := omega) only [xor1])) <;> (repeat' refine And.intro ?_ ?_) <;> (first | omega | rfl | assumption | skip)
  · have hv := pairs_err (g := g) (a := a) (b := turn b) (c := turn a) (d := b) h0
    have hb2 : (e != 0) = true := by simpa using h0
    repeat' (first | simp (maxDischargeDepth := 9) -implicitDefEqProofs -dsimp only [go_sem, seval, *] | simp (disch := omega) only [xor1] | ((with_reducible refine Zt (fun oF hoF hnF hnF' => ?_)); (try simp only [upd_none, ne_eq, not_and] at hoF)) | ((with_reducible apply ACalls.one1); (focus ((first | with_reducible refine ref_may g [a, b] _ hs ?_ | with_reducible refine ACalls.flA (ref_may g [a, b] _ hs ?_) ?_) <;> (first | (simp (maxDischargeDepth := 9) -implicitDefEqProofs -dsimp only [go_sem, seval, *]; done) | omega))); (focus (first | trivial | with_reducible exact rfl | (simp (maxDischargeDepth := 9) -implicitDefEqProofs -dsimp only [go_sem, seval]; done)))))
    refine fin_eq ?_
    (repeat' (first | simp (maxDischargeDepth := 9) -implicitDefEqProofs -dsimp only [go_sem, seval, *] | simp (disch := omega) only [xor1])) <;> (repeat' refine And.intro ?_ ?_) <;> (first | omega | rfl | assumption | skip)
end Go.Proofs.YtjichkelfhcbcaaGreat.A

namespace Go.Proofs.YtjichkelfhcbcaaGreat.A
open Abs Fil
theorem ref_Bools (a b : List Bool) (σ : Sig) (ha : a.length ≤ 1000000000) :
    ACalls Tryz.prog 8 [.slice (a.map encBool) .no, .slice (b.map encBool) .no] σ (fun r σ' => r = .ret (.bool (decide (a = b))) ∧ σ' = σ) := by
  refine calls_x mixed Tryz.func8 b8 n8 rfl q8 (by simp) ?_; unfold c8 r8
  by_cases hl : a.length = b.length
  · repeat' (first | simp (maxDischargeDepth := 9) -implicitDefEqProofs -dsimp only [go_sem, seval, *] | simp (disch := omega) only [wrap64] | ((with_reducible refine Zu ?_ ?_); focus omega))
    have hl' := And.intro (Nat.le_of_eq hl) (Nat.le_of_eq hl.symm)
    clear hl
    refine loop_rule (fun i : Nat => [(0, some (.slice (a.map encBool) .no)), (1, some (.slice (b.map encBool) .no)), (5, some (.int .i64 i))]) (fun _ => σ) (fun i => i ≤ a.length ∧ ∀ j, (hj : j < a.length) → j < i → a[j] = b[j]) (fun i => a.length - i) 0 ?_ ?_
    · (repeat' (first | simp (maxDischargeDepth := 9) -implicitDefEqProofs -dsimp only [go_sem, seval, *] | simp (disch := omega) only [wrap64])) <;> (repeat' refine And.intro ?_ ?_) <;> (first | omega | rfl | assumption | skip)
    · rintro i ⟨hi, hok⟩
      by_cases hlt : i < a.length
      · have hlt' : i < b.length := by omega
        obtain ⟨x, hx⟩ : ∃ x, a[i] = x := ⟨_, rfl⟩
        obtain ⟨y, hy⟩ : ∃ y, b[i] = y := ⟨_, rfl⟩
        by_cases he : x = y
        · subst he
          repeat' (first | simp (maxDischargeDepth := 9) -implicitDefEqProofs -dsimp only [go_sem, seval, *] | simp (disch := omega) only [wrap64] | ((with_reducible refine Zu ?_ ?_); focus omega))
          refine loop_next _ _ _ _ (i + 1) ?_; (repeat' (first | simp (maxDischargeDepth := 9) -implicitDefEqProofs -dsimp only [go_sem, seval, *] | simp (disch := omega) only [wrap64])) <;> (repeat' refine And.intro ?_ ?_) <;> (first | omega | rfl | assumption | skip)
          intro j hj hji
          rcases Nat.lt_or_ge j i with h' | h'
          · exact hok j hj h'
          · obtain rfl : j = i := by omega
            rw [hx, hy]
        · have hv : decide (a = b) = false := by simp; intro e; exact he (by rw [← hx, ← hy]; simp only [e])
          have hb : (x == y) = false := by simpa using he
          repeat' (first | simp (maxDischargeDepth := 9) -implicitDefEqProofs -dsimp only [go_sem, seval, *] | simp (disch := omega) only [wrap64] | ((with_reducible refine Zu ?_ ?_); focus omega))
          refine fin_eq ?_
          (repeat' (first | simp (maxDischargeDepth := 9) -implicitDefEqProofs -dsimp only [go_sem, seval, *] | simp (disch := omega) only [wrap64])) <;> (repeat' refine And.intro ?_ ?_) <;> (first | omega | rfl | assumption | skip)
      · have hv : decide (a = b) = true := by simp; exact List.ext_getElem (by omega) fun j hj _ => hok j hj (by omega)
        repeat' (first | simp (maxDischargeDepth := 9) -implicitDefEqProofs -dsimp only [go_sem, seval, *] | simp (disch := omega) only [wrap64] | ((with_reducible refine Zu ?_ ?_); focus omega))
        refine fin_eq ?_
        (repeat' (first | simp (maxDischargeDepth := 9) -implicitDefEqProofs -dsimp only [go_sem, seval, *] | simp (disch := omega) only [wrap64])) <;> (repeat' refine And.intro ?_ ?_) <;> (first | omega | rfl | assumption | skip)
  · have hb : ((a.length : Int) != b.length) = true := by simp; omega
    have hv : decide (a = b) = false := by simp; intro e; exact hl (by rw [e])
    repeat' (first | simp (maxDischargeDepth := 9) -implicitDefEqProofs -dsimp only [go_sem, seval, *] | simp (disch := omega) only [wrap64] | ((with_reducible refine Zu ?_ ?_); focus omega))
    refine fin_eq ?_
    (repeat' (first | simp (maxDischargeDepth := 9) -implicitDefEqProofs -dsimp only [go_sem, seval, *] | simp (disch := omega) only [wrap64])) <;> (repeat' refine And.intro ?_ ?_) <;> (first | omega | rfl | assumption | skip)
end Go.Proofs.YtjichkelfhcbcaaGreat.A

namespace Abs
open Go
inductive Sh where
  | bool
  | int (k : IntKind)
  | str
  | slice (agg : Bool) (e : Sh)
  | row (l : List Sh)
def shAll (f : TypeId → Option Sh) : List TypeId → Option (List Sh)
  | [] => some []
  | t :: ts => match f t, shAll f ts with
    | some s, some l => some (s :: l)
    | _, _ => none
def shOf (P : Program) : Nat → TypeId → Option Sh
  | 0, _ => none
  | g + 1, t =>
    match P.underlying t with
    | some .bool => some .bool
    | some (.int k) => some (.int k)
    | some .string => some .str
    | some (.slice e) => (shOf P g e).map (.slice (isAgg P e))
    | some (.struct fs) => (shAll (shOf P g) (fs.toList.map (·.type))).map .row
    | some (.array n e) => (shAll (shOf P g) (List.replicate n e)).map .row
    | _ => none
mutual
def ShC : Sh → List AV → Prop
  | .bool, cs => ∃ b, cs = [.bool b]
  | .int k, cs => ∃ n, cs = [.int k n] ∧ k.min ≤ n ∧ n ≤ k.max
  | .str, cs => ∃ s : ByteArray, cs = [.str s] ∧ s.size ≤ maxLen
  | .slice b e, cs => ∃ l, cs = [.slice l .no] ∧ l.length ≤ maxLen ∧ ∀ x ∈ l, ∃ es, mkv b es = some x ∧ ShC e es
  | .row l, cs => ShL l cs
def ShL : List Sh → List AV → Prop
  | [], cs => cs = []
  | s :: l, cs => ∃ p q, cs = p ++ q ∧ ShC s p ∧ ShL l q
end
theorem cells_sh {P : Program} : ∀ (g : Nat) (t : TypeId) (s : Sh) (cs : List AV), shOf P g t = some s → Cells P g t cs → ShC s cs
  | 0, _, _, _, h, _ => by simp [shOf] at h
  | g + 1, t, s, cs, h, hc => by
    have all : ∀ (ts : List TypeId) (l : List Sh) (cs : List AV), shAll (shOf P g) ts = some l → CellsL (Cells P g) ts cs → ShL l cs := by
      intro ts
      induction ts with
      | nil => intro l cs h hc; simp [shAll] at h; subst h; simpa [ShL, CellsL] using hc
      | cons t ts ih =>
        intro l cs h hc
        simp only [shAll] at h
        split at h <;> simp at h
        rename_i s' l' h1 h2
        subst h
        obtain ⟨p, q, e, c1, c2⟩ := hc
        exact ⟨p, q, e, cells_sh g t s' p h1 c1, ih l' q h2 c2⟩
    simp only [shOf] at h
    simp only [Cells] at hc
    split at h
    · rename_i hu; rw [hu] at hc; simp at h; subst h; exact hc
    · rename_i k hu; rw [hu] at hc; simp at h; subst h; exact hc
    · rename_i hu; rw [hu] at hc; simp at h; subst h; exact hc
    · rename_i e hu
      rw [hu] at hc
      simp only [Option.map_eq_some_iff] at h
      obtain ⟨s', h1, rfl⟩ := h
      obtain ⟨l, e1, e2, e3⟩ := hc
      refine ⟨l, e1, e2, fun x hx => ?_⟩
      obtain ⟨es, k1, k2⟩ := e3 x hx
      exact ⟨es, k1, cells_sh g e s' es h1 k2⟩
    · rename_i fs hu
      rw [hu] at hc
      simp only [Option.map_eq_some_iff] at h
      obtain ⟨l, h1, rfl⟩ := h
      exact all _ l cs h1 hc
    · rename_i n e hu
      rw [hu] at hc
      simp only [Option.map_eq_some_iff] at h
      obtain ⟨l, h1, rfl⟩ := h
      exact all _ l cs h1 hc
    · simp at h
def ShV (b : Bool) (s : Sh) (a : AV) : Prop := ∃ es, mkv b es = some a ∧ ShC s es
def ShVs : List (Bool × Sh) → List AV → Prop
  | [], as_ => as_ = []
  | p :: l, as_ => ∃ a r, as_ = a :: r ∧ ShV p.1 p.2 a ∧ ShVs l r
def argSh (P : Program) (g : Nat) : List TypeId → Option (List (Bool × Sh))
  | [] => some []
  | t :: ts => match shOf P g t, argSh P g ts with
    | some s, some l => some ((isAgg P t, s) :: l)
    | _, _ => none
theorem args_sh {P : Program} {g : Nat} : ∀ {ts : List TypeId} {l : List (Bool × Sh)} {as_ : List AV}, argSh P g ts = some l → ArgsAre P g ts as_ → ShVs l as_
  | [], l, [], h, _ => by simp [argSh] at h; subst h; rfl
  | [], _, _ :: _, _, ha => ha.elim
  | t :: ts, _, [], _, ha => ha.elim
  | t :: ts, l, a :: as_, h, ha => by
    simp only [argSh] at h
    split at h <;> simp at h
    rename_i s l' h1 h2
    subst h
    obtain ⟨⟨es, k1, k2⟩, k3⟩ := ha
    exact ⟨a, as_, rfl, ⟨es, k1, cells_sh g t s es h1 k2⟩, args_sh h2 k3⟩
theorem list_dec {α : Type} {f : α → AV} {p : α → Prop} : ∀ {l : List AV}, (∀ x ∈ l, ∃ y, x = f y ∧ p y) → ∃ m : List α, l = m.map f ∧ ∀ y ∈ m, p y
  | [], _ => ⟨[], rfl, by simp⟩
  | x :: l, h => by
    obtain ⟨y, e, hy⟩ := h x (by simp)
    obtain ⟨m, e', hm⟩ := list_dec (l := l) fun x hx => h x (by simp [hx])
    exact ⟨y :: m, by simp [e, e'], by simpa using ⟨hy, hm⟩⟩
theorem shv_int {k : IntKind} {a : AV} (h : ShV false (.int k) a) : ∃ n, a = .int k n ∧ k.min ≤ n ∧ n ≤ k.max := by
  obtain ⟨es, h1, n, rfl, h2⟩ := h
  simp [mkv] at h1
  exact ⟨n, h1.symm, h2⟩
theorem shc_slice {b : Bool} {e : Sh} {cs : List AV} (h : ShC (.slice b e) cs) {α : Type} {f : α → AV} {p : α → Prop} (hd : ∀ x, ShV b e x → ∃ y, x = f y ∧ p y) : ∃ m : List α, cs = [.slice (m.map f) .no] ∧ m.length ≤ maxLen ∧ ∀ y ∈ m, p y := by
  obtain ⟨l, rfl, h2, h3⟩ := h
  obtain ⟨m, rfl, hm⟩ := list_dec (f := f) (p := p) (l := l) fun x hx => hd x (h3 x hx)
  exact ⟨m, rfl, by simpa using h2, hm⟩
end Abs

namespace Fil.Bd
abbrev T3 := Int × Int × Int
def frk (F : List T3) (n : Int) : T3 := F.getD n.toNat (0, 0, 0)
def top (vars : Int) (F : List T3) (n : Int) : Int := if n < 2 then vars else (frk F n).1
def tab (F : List T3) : Nat → Int → Int → List Bool
  | 0, _, n => [n == 1]
  | k + 1, v, n => if 2 ≤ n ∧ (frk F n).1 = v then tab F k (v + 1) (frk F n).2.1 ++ tab F k (v + 1) (frk F n).2.2 else tab F k (v + 1) n ++ tab F k (v + 1) n
structure Ok (vars : Int) (F : List T3) : Prop where
  two : 2 ≤ F.length
  lo : 0 ≤ vars
  var : ∀ i : Int, 2 ≤ i → i < F.length → 0 ≤ (frk F i).1 ∧ (frk F i).1 < vars
  ne : ∀ i : Int, 2 ≤ i → i < F.length → (frk F i).2.1 ≠ (frk F i).2.2
  low : ∀ i : Int, 2 ≤ i → i < F.length → 0 ≤ (frk F i).2.1 ∧ (frk F i).2.1 < i ∧ (frk F i).1 < top vars F (frk F i).2.1
  high : ∀ i : Int, 2 ≤ i → i < F.length → 0 ≤ (frk F i).2.2 ∧ (frk F i).2.2 < i ∧ (frk F i).1 < top vars F (frk F i).2.2
  uniq : ∀ i j : Int, 2 ≤ i → i < F.length → 2 ≤ j → j < F.length → frk F i = frk F j → i = j
def In (vars : Int) (F : List T3) (v n : Int) : Prop := 0 ≤ n ∧ n < F.length ∧ v ≤ top vars F n
theorem tab_len (F : List T3) : ∀ k v n, (tab F k v n).length = 2 ^ k
  | 0, v, n => rfl
  | k + 1, v, n => by
    simp only [tab]
    split <;> simp [tab_len F k] <;> omega
theorem tab_at {F : List T3} {k v n} (h : 2 ≤ n ∧ (frk F n).1 = v) : tab F (k + 1) v n = tab F k (v + 1) (frk F n).2.1 ++ tab F k (v + 1) (frk F n).2.2 := by rw [tab, if_pos h]
theorem tab_up {F : List T3} {k v n} (h : ¬ (2 ≤ n ∧ (frk F n).1 = v)) : tab F (k + 1) v n = tab F k (v + 1) n ++ tab F k (v + 1) n := by rw [tab, if_neg h]
theorem In.up {vars F v n} (h : In vars F v n) (ho : Ok vars F) {k : Nat} (hv : v + (k + 1 : Nat) = vars) (hn : ¬ (2 ≤ n ∧ (frk F n).1 = v)) : In vars F (v + 1) n := by
  obtain ⟨h1, h2, h3⟩ := h
  refine ⟨h1, h2, ?_⟩
  unfold top at h3 ⊢
  split
  · omega
  · rename_i h4
    rw [if_neg h4] at h3
    have : (frk F n).1 ≠ v := fun e => hn ⟨by omega, e⟩
    omega
theorem In.lo {vars F v n} (h : In vars F v n) (ho : Ok vars F) (hn : 2 ≤ n ∧ (frk F n).1 = v) : In vars F (v + 1) (frk F n).2.1 := by
  obtain ⟨h1, h2, h3⟩ := h
  obtain ⟨a, b, c⟩ := ho.low n hn.1 h2
  exact ⟨a, by omega, by omega⟩
theorem In.hi {vars F v n} (h : In vars F v n) (ho : Ok vars F) (hn : 2 ≤ n ∧ (frk F n).1 = v) : In vars F (v + 1) (frk F n).2.2 := by
  obtain ⟨h1, h2, h3⟩ := h
  obtain ⟨a, b, c⟩ := ho.high n hn.1 h2
  exact ⟨a, by omega, by omega⟩
theorem In.end {vars F n} (h : In vars F vars n) (ho : Ok vars F) : n = 0 ∨ n = 1 := by
  obtain ⟨h1, h2, h3⟩ := h
  unfold top at h3
  split at h3
  · omega
  · have := (ho.var n (by omega) h2).2
    omega
theorem canon {vars F} (ho : Ok vars F) : ∀ (k : Nat) (v n m : Int), v + k = vars → In vars F v n → In vars F v m → tab F k v n = tab F k v m → n = m
  | 0, v, n, m, hv, hn, hm, h => by
    have e : v = vars := by omega
    subst e
    rcases hn.end ho with rfl | rfl <;> rcases hm.end ho with rfl | rfl <;> first | rfl | (exfalso; revert h; simp [tab])
  | k + 1, v, n, m, hv, hn, hm, h => by
    have ih := canon ho k (v + 1)
    have hl : ∀ a b, (tab F k (v + 1) a).length = (tab F k (v + 1) b).length := fun a b => by rw [tab_len, tab_len]
    by_cases c1 : 2 ≤ n ∧ (frk F n).1 = v <;> by_cases c2 : 2 ≤ m ∧ (frk F m).1 = v
    · rw [tab_at c1, tab_at c2] at h
      obtain ⟨e1, e2⟩ := List.append_inj h (hl _ _)
      have q1 := ih _ _ (by omega) (hn.lo ho c1) (hm.lo ho c2) e1
      have q2 := ih _ _ (by omega) (hn.hi ho c1) (hm.hi ho c2) e2
      refine ho.uniq n m c1.1 hn.2.1 c2.1 hm.2.1 ?_
      exact Prod.ext (c1.2.trans c2.2.symm) (Prod.ext q1 q2)
    · rw [tab_at c1, tab_up c2] at h
      obtain ⟨e1, e2⟩ := List.append_inj h (hl _ _)
      have q1 := ih _ _ (by omega) (hn.lo ho c1) (hm.up ho hv c2) e1
      have q2 := ih _ _ (by omega) (hn.hi ho c1) (hm.up ho hv c2) e2
      exact absurd (q1.trans q2.symm) (ho.ne n c1.1 hn.2.1)
    · rw [tab_up c1, tab_at c2] at h
      obtain ⟨e1, e2⟩ := List.append_inj h (hl _ _)
      have q1 := ih _ _ (by omega) (hn.up ho hv c1) (hm.lo ho c2) e1
      have q2 := ih _ _ (by omega) (hn.up ho hv c1) (hm.hi ho c2) e2
      exact absurd (q1.symm.trans q2) (ho.ne m c2.1 hm.2.1)
    · rw [tab_up c1, tab_up c2] at h
      obtain ⟨e1, e2⟩ := List.append_inj h (hl _ _)
      exact ih _ _ (by omega) (hn.up ho hv c1) (hm.up ho hv c2) e1

/-! ### What is there stays -/
theorem frk_app {F l : List T3} {n : Int} (h0 : 0 ≤ n) (h : n < F.length) : frk (F ++ l) n = frk F n := by
  unfold frk
  rw [List.getD_eq_getElem?_getD, List.getD_eq_getElem?_getD, List.getElem?_append_left (by omega)]
theorem top_app {vars} {F l : List T3} {n : Int} (h : n < F.length) : top vars (F ++ l) n = top vars F n := by
  unfold top
  split
  · rfl
  · rw [frk_app (by omega) h]
theorem In.app {vars F v n} (l : List T3) (h : In vars F v n) : In vars (F ++ l) v n :=
  ⟨h.1, by have := h.2.1; simp; omega, by rw [top_app h.2.1]; exact h.2.2⟩
theorem tab_app {vars F} (ho : Ok vars F) (l : List T3) : ∀ (k : Nat) (v n : Int), 0 ≤ n → n < F.length → tab (F ++ l) k v n = tab F k v n
  | 0, v, n, _, _ => rfl
  | k + 1, v, n, h0, h => by
    simp only [tab, frk_app h0 h]
    split
    · rename_i c
      obtain ⟨a, b, _⟩ := ho.low n c.1 h
      obtain ⟨a', b', _⟩ := ho.high n c.1 h
      rw [tab_app ho l k _ _ a (by omega), tab_app ho l k _ _ a' (by omega)]
    · rw [tab_app ho l k _ _ h0 h]

/-! ### What is put -/
def fnd : List T3 → T3 → Int → Option Int
  | [], _, _ => none
  | y :: r, x, i => if y = x then some i else fnd r x (i + 1)
theorem fnd_some : ∀ {l : List T3} {x : T3} {i n : Int}, fnd l x i = some n → i ≤ n ∧ n < i + l.length ∧ l.getD (n - i).toNat (0, 0, 0) = x
  | [], x, i, n, h => by simp [fnd] at h
  | y :: r, x, i, n, h => by
    simp only [fnd] at h
    split at h
    · rename_i e
      simp at h; subst h
      simp [e]; omega
    · obtain ⟨a, b, c⟩ := fnd_some h
      refine ⟨by omega, by simp; omega, ?_⟩
      have : (n - i).toNat = (n - (i + 1)).toNat + 1 := by omega
      rw [this]; simpa using c
theorem fnd_none : ∀ {l : List T3} {x : T3} {i : Int}, fnd l x i = none → ∀ j : Nat, j < l.length → l.getD j (0, 0, 0) ≠ x
  | [], x, i, h, j, hj => by simp at hj
  | y :: r, x, i, h, j, hj => by
    simp only [fnd] at h
    split at h
    · simp at h
    · rename_i e
      cases j with
      | zero => simpa using e
      | succ j => simpa using fnd_none h j (by simpa using hj)
def find (F : List T3) (x : T3) : Option Int := fnd (F.drop 2) x 2
theorem getD_drop (F : List T3) (i : Nat) : (F.drop 2).getD i (0, 0, 0) = F.getD (2 + i) (0, 0, 0) := by
  simp [List.getD_eq_getElem?_getD]
theorem find_some {F x n} (h : find F x = some n) : 2 ≤ n ∧ n < F.length ∧ frk F n = x := by
  obtain ⟨a, b, c⟩ := fnd_some h
  rw [getD_drop] at c
  simp only [List.length_drop] at b
  refine ⟨a, by omega, ?_⟩
  unfold frk
  rw [← c]; congr 1; omega
theorem find_none {F x} (h : find F x = none) (n : Int) (h2 : 2 ≤ n) (hn : n < F.length) : frk F n ≠ x := by
  have := fnd_none h (n.toNat - 2) (by simp; omega)
  rw [getD_drop] at this
  unfold frk
  rwa [show 2 + (n.toNat - 2) = n.toNat by omega] at this
theorem find_eq {vars F} (ho : Ok vars F) {n : Int} (h2 : 2 ≤ n) (hn : n < F.length) {x} (hx : frk F n = x) : find F x = some n := by
  cases h : find F x with
  | none => exact absurd hx (find_none h n h2 hn)
  | some m =>
    obtain ⟨a, b, c⟩ := find_some h
    rw [ho.uniq n m h2 hn a b (hx.trans c.symm)]
def put : Nat → List T3 → Int → List Bool → List T3 × Int
  | 0, F, _, t => (F, if t.headD false then 1 else 0)
  | k + 1, F, v, t =>
    if t.take (2 ^ k) = t.drop (2 ^ k) then put k F (v + 1) (t.take (2 ^ k))
    else
      let a := put k F (v + 1) (t.take (2 ^ k))
      let b := put k a.1 (v + 1) (t.drop (2 ^ k))
      match find b.1 (v, a.2, b.2) with
      | some i => (b.1, i)
      | none => (b.1 ++ [(v, a.2, b.2)], b.1.length)
theorem put_same {k F v t} (h : t.length = 2 ^ k) : put (k + 1) F v (t ++ t) = put k F (v + 1) t := by
  simp only [put]
  rw [List.take_left' h, List.drop_left' h, if_pos rfl]
theorem put_two {k F v s t} (h : s.length = 2 ^ k) (hne : s ≠ t) : put (k + 1) F v (s ++ t) =
    (match find (put k (put k F (v + 1) s).1 (v + 1) t).1 (v, (put k F (v + 1) s).2, (put k (put k F (v + 1) s).1 (v + 1) t).2) with
      | some i => ((put k (put k F (v + 1) s).1 (v + 1) t).1, i)
      | none => ((put k (put k F (v + 1) s).1 (v + 1) t).1 ++ [(v, (put k F (v + 1) s).2, (put k (put k F (v + 1) s).1 (v + 1) t).2)], ((put k (put k F (v + 1) s).1 (v + 1) t).1.length : Int))) := by
  simp only [put]
  rw [List.take_left' h, List.drop_left' h, if_neg hne]
theorem put_present {vars F} (ho : Ok vars F) : ∀ (k : Nat) (v n : Int), v + k = vars → In vars F v n → put k F v (tab F k v n) = (F, n)
  | 0, v, n, hv, hn => by
    have e : v = vars := by omega
    subst e
    rcases hn.end ho with rfl | rfl <;> simp [put, tab]
  | k + 1, v, n, hv, hn => by
    by_cases c : 2 ≤ n ∧ (frk F n).1 = v
    · rw [tab_at c, put_two (tab_len ..)]
      · have h1 := put_present ho k (v + 1) _ (by omega) (hn.lo ho c)
        have h2 := put_present ho k (v + 1) _ (by omega) (hn.hi ho c)
        simp only [h1, h2]
        rw [find_eq ho c.1 hn.2.1 (x := (v, (frk F n).2.1, (frk F n).2.2)) (by rw [← c.2])]
      · intro e
        exact ho.ne n c.1 hn.2.1 (canon ho k (v + 1) _ _ (by omega) (hn.lo ho c) (hn.hi ho c) e)
    · rw [tab_up c, put_same (tab_len ..)]
      exact put_present ho k (v + 1) n (by omega) (hn.up ho hv c)
theorem Ok.push {vars F} (ho : Ok vars F) {v lo hi : Int} (hv0 : 0 ≤ v) (hv : v < vars) (hne : lo ≠ hi) (h1 : In vars F (v + 1) lo) (h2 : In vars F (v + 1) hi) (hf : find F (v, lo, hi) = none) :
    Ok vars (F ++ [(v, lo, hi)]) ∧ frk (F ++ [(v, lo, hi)]) F.length = (v, lo, hi) := by
  have hlast : frk (F ++ [(v, lo, hi)]) F.length = (v, lo, hi) := by simp [frk, List.getD_eq_getElem?_getD]
  refine ⟨?_, hlast⟩
  have split : ∀ i : Int, 2 ≤ i → i < (F ++ [(v, lo, hi)]).length → (i < F.length ∧ frk (F ++ [(v, lo, hi)]) i = frk F i) ∨ (i = F.length ∧ frk (F ++ [(v, lo, hi)]) i = (v, lo, hi)) := fun i a b => by
    simp at b
    by_cases c : i < F.length
    · exact .inl ⟨c, frk_app (by omega) c⟩
    · have e : i = F.length := by omega
      subst e; exact .inr ⟨rfl, hlast⟩
  refine ⟨by have := ho.two; simp; omega, ho.lo, fun i a b => ?_, fun i a b => ?_, fun i a b => ?_, fun i a b => ?_, fun i j a b c d e => ?_⟩
  · rcases split i a b with ⟨q, e⟩ | ⟨q, e⟩ <;> rw [e]
    · exact ho.var i a q
    · exact ⟨hv0, hv⟩
  · rcases split i a b with ⟨q, e⟩ | ⟨q, e⟩ <;> rw [e]
    · exact ho.ne i a q
    · exact hne
  · rcases split i a b with ⟨q, e⟩ | ⟨q, e⟩ <;> rw [e]
    · obtain ⟨x, y, z⟩ := ho.low i a q
      exact ⟨x, y, by rw [top_app (by omega)]; exact z⟩
    · exact ⟨h1.1, by have := h1.2.1; subst q; exact this, by rw [top_app h1.2.1]; have := h1.2.2; show v < _; omega⟩
  · rcases split i a b with ⟨q, e⟩ | ⟨q, e⟩ <;> rw [e]
    · obtain ⟨x, y, z⟩ := ho.high i a q
      exact ⟨x, y, by rw [top_app (by omega)]; exact z⟩
    · exact ⟨h2.1, by have := h2.2.1; subst q; exact this, by rw [top_app h2.2.1]; have := h2.2.2; show v < _; omega⟩
  · rcases split i a b with ⟨q, e1⟩ | ⟨q, e1⟩ <;> rcases split j c d with ⟨q', e2⟩ | ⟨q', e2⟩ <;> rw [e1, e2] at e
    · exact ho.uniq i j a q c q' e
    · exact absurd e (find_none hf i a q)
    · exact absurd e.symm (find_none hf j c q')
    · omega
theorem two_pow_pos' (k : Nat) : 1 ≤ 2 ^ k := Nat.one_le_two_pow
structure Put (vars : Int) (F : List T3) (k : Nat) (v : Int) (t : List Bool) (r : List T3 × Int) : Prop where
  ok : Ok vars r.1
  pre : ∃ l, r.1 = F ++ l
  inn : In vars r.1 v r.2
  tab : tab r.1 k v r.2 = t
  len : r.1.length + 1 ≤ F.length + 2 ^ k
  last : r.1 = F ∨ r.2 = r.1.length - 1
  new : ∀ i : Int, F.length ≤ i → i < r.1.length → v ≤ (frk r.1 i).1
theorem put_ok {vars} : ∀ (k : Nat) (F : List T3) (v : Int) (t : List Bool), Ok vars F → 0 ≤ v → v + k = vars → t.length = 2 ^ k → Put vars F k v t (put k F v t)
  | 0, F, v, t, ho, hv0, hv, ht => by
    obtain ⟨b, rfl⟩ : ∃ b, t = [b] := by
      match t, ht with
      | [b], _ => exact ⟨b, rfl⟩
    have h2 := ho.two
    refine ⟨ho, ⟨[], by simp [put]⟩, ?_, ?_, by simp [put], .inl rfl, fun i a b => by simp only [put] at b; omega⟩
    · cases b <;> refine ⟨by simp [put], by simp [put]; omega, by simp [put, top]; omega⟩
    · cases b <;> simp [put, Bd.tab]
  | k + 1, F, v, t, ho, hv0, hv, ht => by
    have hp := two_pow_pos' k
    have he : t = t.take (2 ^ k) ++ t.drop (2 ^ k) := (List.take_append_drop _ _).symm
    have l1 : (t.take (2 ^ k)).length = 2 ^ k := by rw [List.length_take, ht]; omega
    have l2 : (t.drop (2 ^ k)).length = 2 ^ k := by rw [List.length_drop, ht]; omega
    generalize t.take (2 ^ k) = s1 at *
    generalize t.drop (2 ^ k) = s2 at *
    subst he
    have up : ∀ {F n}, In vars F (v + 1) n → Ok vars F → tab F (k + 1) v n = tab F k (v + 1) n ++ tab F k (v + 1) n := fun {F n} h ho => by
      refine tab_up fun c => ?_
      have := h.2.2
      unfold top at this
      rw [if_neg (by omega)] at this
      omega
    by_cases hs : s1 = s2
    · subst hs
      rw [put_same l1]
      have p := put_ok k F (v + 1) s1 ho (by omega) (by omega) l1
      exact ⟨p.ok, p.pre, ⟨p.inn.1, p.inn.2.1, by have := p.inn.2.2; omega⟩, by rw [up p.inn p.ok, p.tab], by have := p.len; omega, p.last, fun i a b => by have := p.new i a b; omega⟩
    · rw [put_two l1 hs]
      have p := put_ok k F (v + 1) s1 ho (by omega) (by omega) l1
      generalize ha : put k F (v + 1) s1 = a at *
      have q := put_ok k a.1 (v + 1) s2 p.ok (by omega) (by omega) l2
      generalize hb : put k a.1 (v + 1) s2 = b at *
      obtain ⟨la, ea⟩ := p.pre
      obtain ⟨lb, eb⟩ := q.pre
      have ia : In vars b.1 (v + 1) a.2 := by rw [eb]; exact p.inn.app lb
      have ta : Bd.tab b.1 k (v + 1) a.2 = s1 := by rw [eb, tab_app p.ok _ _ _ _ p.inn.1 p.inn.2.1, p.tab]
      have hlen := p.len
      have hlen' := q.len
      cases hf : find b.1 (v, a.2, b.2) with
      | some i =>
        obtain ⟨f1, f2, f3⟩ := find_some hf
        refine ⟨q.ok, ⟨la ++ lb, by rw [eb, ea, List.append_assoc]⟩, ⟨by show 0 ≤ i; omega, f2, by show v ≤ top vars b.1 i; unfold top; rw [if_neg (by omega), f3]; exact Int.le_refl v⟩, ?_, by show b.1.length + 1 ≤ _; omega, ?_, ?_⟩
        · show Bd.tab b.1 (k + 1) v i = _
          rw [tab_at ⟨f1, by rw [f3]⟩, f3]
          show Bd.tab b.1 k (v + 1) a.2 ++ Bd.tab b.1 k (v + 1) b.2 = _
          rw [ta, q.tab]
        · refine .inl ?_
          show b.1 = F
          have hiF : i < F.length := by
            rcases Int.lt_or_le i F.length with h | h
            · exact h
            · exfalso
              by_cases hia : i < a.1.length
              · have := p.new i h hia
                have e : frk b.1 i = frk a.1 i := by rw [eb]; exact frk_app (by omega) hia
                rw [← e, f3] at this
                simp only at this
                omega
              · have := q.new i (by omega) f2
                rw [f3] at this
                simp only at this
                omega
          have hFb : b.1 = F ++ (la ++ lb) := by rw [eb, ea, List.append_assoc]
          have htab : Bd.tab F (k + 1) v i = s1 ++ s2 := by
            rw [← tab_app ho (la ++ lb) _ _ _ (by omega) hiF, ← hFb, tab_at ⟨f1, by rw [f3]⟩, f3]
            show Bd.tab b.1 k (v + 1) a.2 ++ Bd.tab b.1 k (v + 1) b.2 = _
            rw [ta, q.tab]
          have hin : In vars F v i := ⟨by omega, hiF, by
            have : frk b.1 i = frk F i := by rw [hFb]; exact frk_app (by omega) hiF
            unfold top; rw [if_neg (by omega), ← this, f3]; exact Int.le_refl v⟩
          have hpp := put_present ho (k + 1) v i hv hin
          rw [htab, put_two l1 hs, ha, hb, hf] at hpp
          exact (Prod.mk.inj hpp).1
        · intro j h1 h2
          show v ≤ (frk b.1 j).1
          by_cases hia : j < a.1.length
          · have := p.new j h1 hia
            have e : frk b.1 j = frk a.1 j := by rw [eb]; exact frk_app (by omega) hia
            rw [e]; omega
          · have := q.new j (by omega) h2
            omega
      | none =>
        have hne : a.2 ≠ b.2 := fun e => by
          apply hs
          rw [← ta, e, q.tab]
        obtain ⟨o1, o2⟩ := q.ok.push hv0 (by omega) hne ia q.inn hf
        refine ⟨o1, ⟨la ++ lb ++ [(v, a.2, b.2)], by show b.1 ++ _ = _; rw [eb, ea]; simp⟩, ⟨by show (0 : Int) ≤ b.1.length; omega, by simp; omega, ?_⟩, ?_, by simp; omega, .inr (by simp), ?_⟩
        · show v ≤ top vars _ (b.1.length : Int)
          have := q.ok.two
          unfold top
          rw [if_neg (by omega), o2]
          exact Int.le_refl v
        · show Bd.tab (b.1 ++ [(v, a.2, b.2)]) (k + 1) v b.1.length = _
          have := q.ok.two
          rw [tab_at ⟨by omega, by rw [o2]⟩, o2]
          show Bd.tab _ k (v + 1) a.2 ++ Bd.tab _ k (v + 1) b.2 = _
          rw [tab_app q.ok _ _ _ _ ia.1 ia.2.1, tab_app q.ok _ _ _ _ q.inn.1 q.inn.2.1, ta, q.tab]
        · intro j h1 h2
          show v ≤ (frk (b.1 ++ [(v, a.2, b.2)]) j).1
          by_cases hj : j < b.1.length
          · rw [frk_app (by omega) hj]
            by_cases hia : j < a.1.length
            · have := p.new j h1 hia
              have e : frk b.1 j = frk a.1 j := by rw [eb]; exact frk_app (by omega) hia
              rw [e]; omega
            · have := q.new j (by omega) hj
              omega
          · have e : j = b.1.length := by simp at h2; omega
            rw [e, o2]; exact Int.le_refl v
end Fil.Bd

namespace Fil.Bd
def get3 : List (T3 × Int) → T3 → Option Int
  | [], _ => none
  | p :: r, k => if p.1 = k then some p.2 else get3 r k
def set3 : List (T3 × Int) → T3 → Int → List (T3 × Int)
  | [], k, v => [(k, v)]
  | p :: r, k, v => if p.1 = k then (k, v) :: r else p :: set3 r k v
theorem get_set : ∀ (l : List (T3 × Int)) (k : T3) (v : Int) (k' : T3), get3 (set3 l k v) k' = if k = k' then some v else get3 l k'
  | [], k, v, k' => by simp [set3, get3]
  | p :: r, k, v, k' => by
    simp only [set3]
    split
    · rename_i e
      subst e
      simp only [get3]
      split <;> rfl
    · rename_i e
      simp only [get3, get_set r]
      split
      · rename_i e2
        rw [if_neg (fun e3 => e (e2.trans e3.symm))]
      · rfl
def get1 : List (Int × Int) → Int → Option Int
  | [], _ => none
  | p :: r, k => if p.1 = k then some p.2 else get1 r k
def set1 : List (Int × Int) → Int → Int → List (Int × Int)
  | [], k, v => [(k, v)]
  | p :: r, k, v => if p.1 = k then (k, v) :: r else p :: set1 r k v
structure Mac where
  forks : List T3
  at_ : List (T3 × Int)
  done : List (T3 × Int)
def forkM (s : Mac) (v lo hi : Int) : Mac × Int :=
  if lo = hi then (s, lo) else
    match get3 s.at_ (v, lo, hi) with
    | some n => (s, n)
    | none => ({ s with forks := s.forks ++ [(v, lo, hi)], at_ := set3 s.at_ (v, lo, hi) s.forks.length }, s.forks.length)
def halfM (vars : Int) (F : List T3) (n v : Int) (way : Bool) : Int :=
  if top vars F n ≠ v then n else if way then (frk F n).2.2 else (frk F n).2.1
def tops (vars : Int) (F : List T3) (f g h : Int) : Int := min (top vars F f) (min (top vars F g) (top vars F h))
def setD (s : Mac) (k : T3) (n : Int) : Mac := { s with done := set3 s.done k n }
def iteM (vars : Int) : Nat → Mac → Int → Int → Int → Mac × Int
  | 0, s, f, g, h => if f = 1 ∨ g = h then (s, g) else (s, h)
  | k + 1, s, f, g, h =>
    if f = 1 ∨ g = h then (s, g) else if f = 0 then (s, h) else if g = 1 ∧ h = 0 then (s, f) else
    match get3 s.done (f, g, h) with
    | some n => (s, n)
    | none =>
      let v := tops vars s.forks f g h
      let a := iteM vars k s (halfM vars s.forks f v false) (halfM vars s.forks g v false) (halfM vars s.forks h v false)
      let b := iteM vars k a.1 (halfM vars a.1.forks f v true) (halfM vars a.1.forks g v true) (halfM vars a.1.forks h v true)
      let r := forkM b.1 v a.2 b.2
      (setD r.1 (f, g, h) r.2, r.2)
def iteT : List Bool → List Bool → List Bool → List Bool
  | x :: a, y :: b, z :: c => (if x then y else z) :: iteT a b c
  | _, _, _ => []
theorem iteT_len : ∀ {a b c : List Bool} {n}, a.length = n → b.length = n → c.length = n → (iteT a b c).length = n
  | [], b, c, n, h, _, _ => by simpa [iteT] using h
  | x :: a, [], c, n, h, h', _ => by simp at h h'; omega
  | x :: a, y :: b, [], n, h, _, h' => by simp at h h'; omega
  | x :: a, y :: b, z :: c, n, h1, h2, h3 => by
    simp only [iteT, List.length_cons] at *
    rw [iteT_len (n := n - 1) (by omega) (by omega) (by omega)]; omega
theorem iteT_append : ∀ {a b c a' b' c' : List Bool}, a.length = b.length → a.length = c.length → iteT (a ++ a') (b ++ b') (c ++ c') = iteT a b c ++ iteT a' b' c'
  | [], b, c, a', b', c', h, h' => by
    have := List.length_eq_zero_iff.1 h.symm; have := List.length_eq_zero_iff.1 h'.symm
    subst_vars; rfl
  | x :: a, [], c, _, _, _, h, _ => by simp at h
  | x :: a, y :: b, [], _, _, _, _, h => by simp at h
  | x :: a, y :: b, z :: c, a', b', c', h, h' => by simp [iteT, iteT_append (a := a) (b := b) (c := c) (by simpa using h) (by simpa using h')]
theorem tab_one (F : List T3) : ∀ (k : Nat) (v : Int), tab F k v 1 = List.replicate (2 ^ k) true
  | 0, v => rfl
  | k + 1, v => by rw [tab_up (by omega), tab_one F k, List.replicate_append_replicate]; congr 1; omega
theorem tab_zero (F : List T3) : ∀ (k : Nat) (v : Int), tab F k v 0 = List.replicate (2 ^ k) false
  | 0, v => rfl
  | k + 1, v => by rw [tab_up (by omega), tab_zero F k, List.replicate_append_replicate]; congr 1; omega
theorem iteT_true : ∀ (n : Nat) (b c : List Bool), b.length = n → c.length = n → iteT (List.replicate n true) b c = b
  | 0, b, c, h, _ => by have := List.length_eq_zero_iff.1 h; subst this; rfl
  | n + 1, [], c, h, _ => by simp at h
  | n + 1, y :: b, [], _, h => by simp at h
  | n + 1, y :: b, z :: c, h, h' => by simp [List.replicate_succ, iteT, iteT_true n b c (by simpa using h) (by simpa using h')]
theorem iteT_false : ∀ (n : Nat) (b c : List Bool), b.length = n → c.length = n → iteT (List.replicate n false) b c = c
  | 0, b, c, _, h => by have := List.length_eq_zero_iff.1 h; subst this; rfl
  | n + 1, [], c, h, _ => by simp at h
  | n + 1, y :: b, [], _, h => by simp at h
  | n + 1, y :: b, z :: c, h, h' => by simp [List.replicate_succ, iteT, iteT_false n b c (by simpa using h) (by simpa using h')]
theorem iteT_self : ∀ (a b : List Bool), a.length = b.length → iteT a b b = b
  | [], [], _ => rfl
  | x :: a, [], h => by simp at h
  | [], y :: b, h => by simp at h
  | x :: a, y :: b, h => by simp [iteT, iteT_self a b (by simpa using h)]
theorem iteT_id : ∀ (n : Nat) (a : List Bool), a.length = n → iteT a (List.replicate n true) (List.replicate n false) = a
  | 0, a, h => by have := List.length_eq_zero_iff.1 h; subst this; rfl
  | n + 1, [], h => by simp at h
  | n + 1, x :: a, h => by cases x <;> simp [List.replicate_succ, iteT, iteT_id n a (by simpa using h)]
theorem top_In {vars F v n} (ho : Ok vars F) (h : In vars F v n) : top vars F n ≤ vars := by
  unfold top
  split
  · omega
  · have := (ho.var n (by omega) h.2.1).2; omega
theorem top_at {vars F v n} (hv : v < vars) (h : top vars F n = v) : 2 ≤ n ∧ (frk F n).1 = v := by
  unfold top at h
  split at h
  · omega
  · exact ⟨by omega, h⟩
theorem top_up {vars F v n} (h : top vars F n ≠ v) : ¬ (2 ≤ n ∧ (frk F n).1 = v) := fun c => h (by unfold top; rw [if_neg (by omega), c.2])
theorem half_lo {vars F v n} (hv : v < vars) (k : Nat) : tab F (k + 1) v n = tab F k (v + 1) (halfM vars F n v false) ++ tab F k (v + 1) (halfM vars F n v true) := by
  unfold halfM
  by_cases c : top vars F n = v
  · rw [tab_at (top_at hv c)]; simp [c]
  · rw [tab_up (top_up c)]; simp [c]
theorem half_In {vars F v n} (hv : v < vars) (ho : Ok vars F) {k : Nat} (hk : v + (k + 1 : Nat) = vars) (h : In vars F v n) (w : Bool) : In vars F (v + 1) (halfM vars F n v w) := by
  unfold halfM
  by_cases c : top vars F n = v
  · cases w
    · simpa [c] using h.lo ho (top_at hv c)
    · simpa [c] using h.hi ho (top_at hv c)
  · simpa [c] using h.up ho hk (top_up c)
theorem half_app {vars F l v n w} (h0 : 0 ≤ n) (h : n < F.length) : halfM vars (F ++ l) n v w = halfM vars F n v w := by
  unfold halfM; rw [top_app h, frk_app h0 h]
def exT : Nat → Nat → List Bool → List Bool
  | 0, _, t => t
  | k + 1, 0, t => iteT (t.take (2 ^ k)) (List.replicate (2 ^ k) true) (t.drop (2 ^ k)) ++ iteT (t.take (2 ^ k)) (List.replicate (2 ^ k) true) (t.drop (2 ^ k))
  | k + 1, d + 1, t => exT k d (t.take (2 ^ k)) ++ exT k d (t.drop (2 ^ k))
def DoneOk (vars : Int) (F : List T3) (key : T3) (n : Int) : Prop :=
  (0 ≤ key.2.2 → (0 ≤ key.1 ∧ key.1 < F.length) ∧ (0 ≤ key.2.1 ∧ key.2.1 < F.length) ∧ (0 ≤ key.2.2 ∧ key.2.2 < F.length) ∧
    ∀ k : Nat, tops vars F key.1 key.2.1 key.2.2 + k = vars → In vars F (tops vars F key.1 key.2.1 key.2.2) n ∧
      tab F k (tops vars F key.1 key.2.1 key.2.2) n = iteT (tab F k (tops vars F key.1 key.2.1 key.2.2) key.1) (tab F k (tops vars F key.1 key.2.1 key.2.2) key.2.1) (tab F k (tops vars F key.1 key.2.1 key.2.2) key.2.2)) ∧
  (key.2.2 < 0 → (0 ≤ key.1 ∧ key.1 < F.length) ∧ ∀ k : Nat, top vars F key.1 + k = vars → In vars F (top vars F key.1) n ∧ tab F k (top vars F key.1) n = exT k (key.2.1 - top vars F key.1).toNat (tab F k (top vars F key.1) key.1))
structure MOk (vars : Int) (s : Mac) : Prop where
  ok : Ok vars s.forks
  at1 : ∀ x n, get3 s.at_ x = some n → 2 ≤ n ∧ n < s.forks.length ∧ frk s.forks n = x
  at2 : ∀ n : Int, 2 ≤ n → n < s.forks.length → get3 s.at_ (frk s.forks n) = some n
def Kept (P : List T3 → T3 → Int → Prop) (s : Mac) : Prop := ∀ k n, get3 s.done k = some n → P s.forks k n
theorem DoneOk.app {vars F key n} (ho : Ok vars F) (l : List T3) (h : DoneOk vars F key n) : DoneOk vars (F ++ l) key n := by
  refine ⟨fun hk => ?_, fun hk => ?_⟩
  rotate_left
  · obtain ⟨h1, h2⟩ := h.2 hk
    rw [top_app h1.2]
    refine ⟨⟨h1.1, by simp; omega⟩, fun k hv => ?_⟩
    obtain ⟨q1, q2⟩ := h2 k hv
    exact ⟨q1.app l, by rw [tab_app ho _ _ _ _ q1.1 q1.2.1, tab_app ho _ _ _ _ h1.1 h1.2, q2]⟩
  obtain ⟨h1, h2, h3, h4⟩ := h.1 hk
  have et : tops vars (F ++ l) key.1 key.2.1 key.2.2 = tops vars F key.1 key.2.1 key.2.2 := by unfold tops; rw [top_app h1.2, top_app h2.2, top_app h3.2]
  rw [et]
  refine ⟨⟨h1.1, by simp; omega⟩, ⟨h2.1, by simp; omega⟩, ⟨h3.1, by simp; omega⟩, fun k hv => ?_⟩
  obtain ⟨q1, q2⟩ := h4 k hv
  exact ⟨q1.app l, by rw [tab_app ho _ _ _ _ q1.1 q1.2.1, tab_app ho _ _ _ _ h1.1 h1.2, tab_app ho _ _ _ _ h2.1 h2.2, tab_app ho _ _ _ _ h3.1 h3.2, q2]⟩
theorem at_find {vars s} (h : MOk vars s) (x : T3) : get3 s.at_ x = find s.forks x := by
  cases c : find s.forks x with
  | some n =>
    obtain ⟨a, b, e⟩ := find_some c
    rw [← e]; exact h.at2 n a b
  | none =>
    cases c' : get3 s.at_ x with
    | none => rfl
    | some n =>
      obtain ⟨a, b, e⟩ := h.at1 x n c'
      exact absurd e (find_none c n a b)
theorem fork_put {vars : Int} {s : Mac} (h : MOk vars s) {v lo hi : Int} {k : Nat} (hv0 : 0 ≤ v) (hv : v + (k + 1 : Nat) = vars) (h1 : In vars s.forks (v + 1) lo) (h2 : In vars s.forks (v + 1) hi) :
    MOk vars (forkM s v lo hi).1 ∧ (forkM s v lo hi).1.done = s.done ∧ ((forkM s v lo hi).1.forks, (forkM s v lo hi).2) = put (k + 1) s.forks v (tab s.forks k (v + 1) lo ++ tab s.forks k (v + 1) hi) := by
  have p1 := put_present h.ok k (v + 1) lo (by omega) h1
  have p2 := put_present h.ok k (v + 1) hi (by omega) h2
  unfold forkM
  by_cases c : lo = hi
  · subst c
    rw [if_pos rfl, put_same (tab_len ..), p1]
    exact ⟨h, rfl, rfl⟩
  · rw [if_neg c, at_find h]
    have hne : tab s.forks k (v + 1) lo ≠ tab s.forks k (v + 1) hi := fun e => c (canon h.ok k (v + 1) _ _ (by omega) h1 h2 e)
    rw [put_two (tab_len ..) hne, p1]
    simp only [p2]
    cases hf : find s.forks (v, lo, hi) with
    | some n => exact ⟨h, rfl, rfl⟩
    | none =>
      obtain ⟨o1, o2⟩ := h.ok.push hv0 (by omega) c h1 h2 hf
      refine ⟨⟨o1, fun x n hg => ?_, fun n a b => ?_⟩, rfl, rfl⟩
      · simp only [get_set] at hg
        split at hg
        · rename_i e
          simp at hg; subst hg; subst e
          have := h.ok.two
          exact ⟨by omega, by simp; omega, o2⟩
        · obtain ⟨a, b, e⟩ := h.at1 x n hg
          exact ⟨a, by simp; omega, by rw [frk_app (by omega) b]; exact e⟩
      · simp only [get_set]
        by_cases hn : n < s.forks.length
        · rw [frk_app (by omega) hn, if_neg (fun e => find_none hf n a hn e.symm)]
          exact h.at2 n a hn
        · have e : n = s.forks.length := by simp at b; omega
          subst e
          rw [o2, if_pos rfl]

/-! ### Ite -/
theorem put_comp {vars : Int} {F : List T3} {k : Nat} {v : Int} {s t : List Bool} (ho : Ok vars F) (hv0 : 0 ≤ v) (hv : v + (k + 1 : Nat) = vars) (hs : s.length = 2 ^ k) (ht : t.length = 2 ^ k)
    {a b : List T3 × Int} (ha : a = put k F (v + 1) s) (hb : b = put k a.1 (v + 1) t) : put (k + 1) F v (s ++ t) = put (k + 1) b.1 v (s ++ t) := by
  have P1 := put_ok k F (v + 1) s ho (by omega) (by omega) hs
  rw [← ha] at P1
  have P2 := put_ok k a.1 (v + 1) t P1.ok (by omega) (by omega) ht
  rw [← hb] at P2
  obtain ⟨lb, eb⟩ := P2.pre
  have ia : In vars b.1 (v + 1) a.2 := by rw [eb]; exact P1.inn.app lb
  have ta : tab b.1 k (v + 1) a.2 = s := by rw [eb, tab_app P1.ok _ _ _ _ P1.inn.1 P1.inn.2.1]; exact P1.tab
  have p1 := put_present P2.ok k (v + 1) a.2 (by omega) ia
  have p2 := put_present P2.ok k (v + 1) b.2 (by omega) P2.inn
  rw [ta] at p1
  rw [P2.tab] at p2
  by_cases c : s = t
  · subst c
    rw [put_same hs, put_same hs, p1, ← ha]
    have q := put_present P1.ok k (v + 1) a.2 (by omega) P1.inn
    rw [P1.tab, ← hb] at q
    rw [q]
  · rw [put_two hs c, put_two hs c, p1]
    simp only [p2, ← ha, ← hb]
theorem tops_le {vars F f g h v} (hf : In vars F v f) (hg : In vars F v g) (hh : In vars F v h) : v ≤ tops vars F f g h := by
  unfold tops; have := hf.2.2; have := hg.2.2; have := hh.2.2; omega
structure Made (vars : Int) (s : Mac) (k : Nat) (v : Int) (t : List Bool) (r : Mac × Int) : Prop where
  ok : MOk vars r.1
  kept : Kept (DoneOk vars) r.1
  put : (r.1.forks, r.2) = put k s.forks v t
theorem Made.same {vars s k v t n} (h : MOk vars s) (hk : Kept (DoneOk vars) s) (hv : v + (k : Nat) = vars) (hn : In vars s.forks v n) (ht : tab s.forks k v n = t) : Made vars s k v t (s, n) :=
  ⟨h, hk, by rw [← ht, put_present h.ok k v n hv hn]⟩
theorem kept_set {vars s key n} (hk : Kept (DoneOk vars) s) (h : DoneOk vars s.forks key n) : Kept (DoneOk vars) (setD s key n) := fun k m e => by
  simp only [setD, get_set] at e ⊢
  split at e
  · rename_i c
    simp at e; subst e; subst c; exact h
  · exact hk k m e
theorem kept_app {vars} {s s' : Mac} (h : Kept (DoneOk vars) s) (ho : Ok vars s.forks) (hd : s'.done = s.done) {l} (hf : s'.forks = s.forks ++ l) : Kept (DoneOk vars) s' := fun k m e => by
  rw [hf]; exact (h k m (hd ▸ e)).app ho l
theorem mok_set {vars s key n} (h : MOk vars s) : MOk vars (setD s key n) := ⟨h.ok, h.at1, h.at2⟩
theorem ite_up {vars F f g h v} {k : Nat} (hf : top vars F f ≠ v) (hg : top vars F g ≠ v) (hh : top vars F h ≠ v) :
    iteT (tab F (k + 1) v f) (tab F (k + 1) v g) (tab F (k + 1) v h) = iteT (tab F k (v + 1) f) (tab F k (v + 1) g) (tab F k (v + 1) h) ++ iteT (tab F k (v + 1) f) (tab F k (v + 1) g) (tab F k (v + 1) h) := by
  rw [tab_up (top_up hf), tab_up (top_up hg), tab_up (top_up hh), iteT_append (by simp [tab_len]) (by simp [tab_len])]
theorem ite_half {vars F f g h v} {k : Nat} (hv : v < vars) :
    iteT (tab F (k + 1) v f) (tab F (k + 1) v g) (tab F (k + 1) v h) =
      iteT (tab F k (v + 1) (halfM vars F f v false)) (tab F k (v + 1) (halfM vars F g v false)) (tab F k (v + 1) (halfM vars F h v false)) ++
      iteT (tab F k (v + 1) (halfM vars F f v true)) (tab F k (v + 1) (halfM vars F g v true)) (tab F k (v + 1) (halfM vars F h v true)) := by
  rw [half_lo hv k, half_lo hv k, half_lo hv k, iteT_append (by simp [tab_len]) (by simp [tab_len])]
theorem ite_stop {vars : Int} {n : Nat} {s : Mac} {f g h v : Int} {k : Nat} (hm : MOk vars s) (hk : Kept (DoneOk vars) s) (hv : v + (k : Nat) = vars) (hf : In vars s.forks v f) (hg : In vars s.forks v g) (hh : In vars s.forks v h)
    (c : f = 1 ∨ g = h ∨ f = 0 ∨ (g = 1 ∧ h = 0)) : Made vars s k v (iteT (tab s.forks k v f) (tab s.forks k v g) (tab s.forks k v h)) (iteM vars (n + 1) s f g h) := by
  simp only [iteM]
  by_cases c1 : f = 1 ∨ g = h
  · rw [if_pos c1]
    refine .same hm hk hv hg ?_
    rcases c1 with rfl | rfl
    · rw [tab_one, iteT_true _ _ _ (tab_len ..) (tab_len ..)]
    · rw [iteT_self _ _ (by simp [tab_len])]
  rw [if_neg c1]
  by_cases c2 : f = 0
  · rw [if_pos c2]
    refine .same hm hk hv hh ?_
    subst c2
    rw [tab_zero, iteT_false _ _ _ (tab_len ..) (tab_len ..)]
  rw [if_neg c2]
  have c3 : g = 1 ∧ h = 0 := by omega
  rw [if_pos c3]
  refine .same hm hk hv hf ?_
  obtain ⟨rfl, rfl⟩ := c3
  rw [tab_one, tab_zero, iteT_id _ _ (tab_len ..)]
theorem ite_put {vars : Int} : ∀ (k n : Nat) (s : Mac) (f g h v : Int), MOk vars s → Kept (DoneOk vars) s → 0 ≤ v → v + k = vars → k < n → In vars s.forks v f → In vars s.forks v g → In vars s.forks v h →
    Made vars s k v (iteT (tab s.forks k v f) (tab s.forks k v g) (tab s.forks k v h)) (iteM vars n s f g h)
  | 0, n, s, f, g, h, v, hm, hk, hv0, hv, hn, hf, hg, hh => by
    obtain ⟨n, rfl⟩ : ∃ m, n = m + 1 := ⟨n - 1, by omega⟩
    have e : v = vars := by omega
    have := (e ▸ hf : In vars s.forks vars f).end hm.ok
    exact ite_stop hm hk hv hf hg hh (by omega)
  | k + 1, n, s, f, g, h, v, hm, hk, hv0, hv, hn, hf, hg, hh => by
    by_cases c : top vars s.forks f ≠ v ∧ top vars s.forks g ≠ v ∧ top vars s.forks h ≠ v
    · have ih := ite_put k n s f g h (v + 1) hm hk (by omega) (by omega) (by omega) (hf.up hm.ok hv (top_up c.1)) (hg.up hm.ok hv (top_up c.2.1)) (hh.up hm.ok hv (top_up c.2.2))
      refine ⟨ih.ok, ih.kept, ?_⟩
      rw [ih.put, ite_up c.1 c.2.1 c.2.2, put_same (iteT_len (tab_len ..) (tab_len ..) (tab_len ..))]
    obtain ⟨n, rfl⟩ : ∃ m, n = m + 1 := ⟨n - 1, by omega⟩
    by_cases cs : f = 1 ∨ g = h ∨ f = 0 ∨ (g = 1 ∧ h = 0)
    · exact ite_stop hm hk hv hf hg hh cs
    have ht : tops vars s.forks f g h = v := by
      have h1 := hf.2.2; have h2 := hg.2.2; have h3 := hh.2.2
      unfold tops; omega
    have hvv : v < vars := by omega
    simp only [iteM]
    rw [if_neg (by omega), if_neg (by omega), if_neg (by omega)]
    cases hd : get3 s.done (f, g, h) with
    | some m =>
      obtain ⟨_, _, _, q⟩ := (hk _ _ hd).1 hh.1
      obtain ⟨q1, q2⟩ := q (k + 1) (by show tops vars s.forks f g h + _ = _; rw [ht]; exact hv)
      simp only [ht] at q1 q2
      exact .same hm hk hv q1 q2
    | none =>
      simp only [ht]
      have m1 := ite_put k n s _ _ _ (v + 1) hm hk (by omega) (by omega) (by omega) (half_In hvv hm.ok hv hf false) (half_In hvv hm.ok hv hg false) (half_In hvv hm.ok hv hh false)
      have P1 := put_ok k s.forks (v + 1) _ hm.ok (by omega) (by omega) (iteT_len (tab_len s.forks k (v + 1) (halfM vars s.forks f v false)) (tab_len s.forks k (v + 1) (halfM vars s.forks g v false)) (tab_len s.forks k (v + 1) (halfM vars s.forks h v false)))
      rw [← m1.put] at P1
      have e1 := m1.put
      generalize iteM vars n s (halfM vars s.forks f v false) (halfM vars s.forks g v false) (halfM vars s.forks h v false) = a at *
      obtain ⟨la, ea⟩ := P1.pre
      simp only at ea
      have hf1 : In vars a.1.forks v f := by rw [ea]; exact hf.app la
      have hg1 : In vars a.1.forks v g := by rw [ea]; exact hg.app la
      have hh1 : In vars a.1.forks v h := by rw [ea]; exact hh.app la
      have m2 := ite_put k n a.1 _ _ _ (v + 1) m1.ok m1.kept (by omega) (by omega) (by omega) (half_In hvv m1.ok.ok hv hf1 true) (half_In hvv m1.ok.ok hv hg1 true) (half_In hvv m1.ok.ok hv hh1 true)
      have P2 := put_ok k a.1.forks (v + 1) _ m1.ok.ok (by omega) (by omega) (iteT_len (tab_len a.1.forks k (v + 1) (halfM vars a.1.forks f v true)) (tab_len a.1.forks k (v + 1) (halfM vars a.1.forks g v true)) (tab_len a.1.forks k (v + 1) (halfM vars a.1.forks h v true)))
      rw [← m2.put] at P2
      have e2 := m2.put
      have hhalf : ∀ x, In vars s.forks v x → tab a.1.forks k (v + 1) (halfM vars a.1.forks x v true) = tab s.forks k (v + 1) (halfM vars s.forks x v true) := fun x hx => by
        have hi := half_In hvv hm.ok hv hx true
        rw [ea, half_app hx.1 hx.2.1, tab_app hm.ok _ _ _ _ hi.1 hi.2.1]
      rw [hhalf f hf, hhalf g hg, hhalf h hh] at P2 e2
      generalize iteM vars n a.1 (halfM vars a.1.forks f v true) (halfM vars a.1.forks g v true) (halfM vars a.1.forks h v true) = b at *
      obtain ⟨lb, eb⟩ := P2.pre
      simp only at eb
      have ia : In vars b.1.forks (v + 1) a.2 := by rw [eb]; exact P1.inn.app lb
      have ta := P1.tab
      rw [← tab_app m1.ok.ok lb _ _ _ P1.inn.1 P1.inn.2.1, ← eb] at ta
      simp only at ta
      obtain ⟨f1, f2, f3⟩ := fork_put (k := k) m2.ok hv0 hv ia P2.inn
      have tb := P2.tab
      simp only at tb
      have hc := put_comp (v := v) hm.ok hv0 hv (iteT_len (tab_len ..) (tab_len ..) (tab_len ..)) (iteT_len (tab_len ..) (tab_len ..) (tab_len ..)) e1 e2
      simp only at hc
      rw [ta, tb, ← hc, ← ite_half hvv] at f3
      have P3 := put_ok (k + 1) s.forks v _ hm.ok hv0 hv (iteT_len (tab_len s.forks (k + 1) v f) (tab_len s.forks (k + 1) v g) (tab_len s.forks (k + 1) v h))
      rw [← f3] at P3
      generalize forkM b.1 v a.2 b.2 = r at *
      obtain ⟨lr, er⟩ := P3.pre
      simp only at er
      have P4 := put_ok (k + 1) b.1.forks v (tab b.1.forks k (v + 1) a.2 ++ tab b.1.forks k (v + 1) b.2) m2.ok.ok hv0 hv (by simp [tab_len]; omega)
      rw [ta, tb, ← hc, ← ite_half hvv, ← f3] at P4
      obtain ⟨lq, eq⟩ := P4.pre
      refine ⟨mok_set f1, kept_set (kept_app m2.kept m2.ok.ok f2 eq) ?_, f3⟩
      refine ⟨fun _ => ?_, fun h' => by have := hh.1; simp only at h'; omega⟩
      have et : tops vars r.1.forks f g h = v := by rw [er]; unfold tops; rw [top_app hf.2.1, top_app hg.2.1, top_app hh.2.1]; exact ht
      have i1 := hf.app lr; have i2 := hg.app lr; have i3 := hh.app lr
      rw [← er] at i1 i2 i3
      refine ⟨⟨i1.1, i1.2.1⟩, ⟨i2.1, i2.2.1⟩, ⟨i3.1, i3.2.1⟩, fun k' hk' => ?_⟩
      simp only [et] at hk' ⊢
      have : k' = k + 1 := by omega
      subst this
      refine ⟨P3.inn, ?_⟩
      have := P3.tab
      simp only at this
      rw [this, er, tab_app hm.ok _ _ _ _ hf.1 hf.2.1, tab_app hm.ok _ _ _ _ hg.1 hg.2.1, tab_app hm.ok _ _ _ _ hh.1 hh.2.1]
end Fil.Bd

namespace Fil.Bd
def Seen (vars : Int) (from_ F : List T3) (seen : List (Int × Int)) : Prop := ∀ n a, get1 seen n = some a → (2 ≤ n ∧ n < from_.length) ∧ In vars F (top vars from_ n) a ∧ ∀ k : Nat, top vars from_ n + k = vars → tab F k (top vars from_ n) a = tab from_ k (top vars from_ n) n
theorem Seen.app {vars : Int} {G F : List T3} {seen} (h : Seen vars G F seen) (ho : Ok vars F) (l : List T3) : Seen vars G (F ++ l) seen := fun n a e => by
  obtain ⟨h1, h2, h3⟩ := h n a e
  exact ⟨h1, h2.app l, fun k hk => by rw [tab_app ho _ _ _ _ h2.1 h2.2.1, h3 k hk]⟩
end Fil.Bd

namespace Fil.Bd
open Abs Go
abbrev encF (f : T3) : AV := .agg [.int .i64 f.1, .int .i64 f.2.1, .int .i64 f.2.2]
abbrev encB (vars : Int) (F : List T3) : AV := .agg [.int .i64 vars, .slice (F.map encF) .no]
abbrev encM (l : List (T3 × Int)) : List (AV × AV) := l.map fun p => (encF p.1, .int .i64 p.2)
abbrev encS (l : List (Int × Int)) : List (AV × AV) := l.map fun p => (.int .i64 p.1, .int .i64 p.2)
abbrev machT (vars : Int) (F : List T3) (k : Tok) (a d : Nat) : AObj := .cells [.int .i64 vars, .slice (F.map encF) k, .map a, .map d]
theorem szs_fork (l : List T3) : szs 3 (l.map encF) = True := szs_map _ _ _ fun _ => rfl
theorem keyOk_f (x y z : Int) : keyOk (.row [0, 0, 0]) (.agg [.int .i64 x, .int .i64 y, .int .i64 z]) = true := rfl
theorem keyOk_i (x : Int) : keyOk (.one 0) (.int .i64 x) = true := rfl
theorem eqKey_f (x y z : Int) (p : T3) : eqKey (.row [0, 0, 0]) (.agg [.int .i64 x, .int .i64 y, .int .i64 z]) (encF p) = some (decide (p = (x, y, z))) := by
  obtain ⟨a, b, c⟩ := p
  simp only [eqKey, eqCells, eq1, if_true, Bool.and_true, Option.some.injEq, Prod.mk.injEq]
  rw [Bool.eq_iff_iff]
  simp only [Bool.and_eq_true, beq_iff_eq, decide_eq_true_eq]
  exact ⟨fun ⟨h1, h2, h3⟩ => ⟨h1.symm, h2.symm, h3.symm⟩, fun ⟨h1, h2, h3⟩ => ⟨h1.symm, h2.symm, h3.symm⟩⟩
theorem look_f (x y z : Int) : ∀ l : List (T3 × Int), lookK (.row [0, 0, 0]) (.agg [.int .i64 x, .int .i64 y, .int .i64 z]) (encM l) = some ((get3 l (x, y, z)).map (.int .i64))
  | [] => rfl
  | p :: r => by
    have ih := look_f x y z r
    simp only [encM, List.map_cons, lookK, eqKey_f, get3] at ih ⊢
    by_cases c : p.1 = (x, y, z)
    · simp [c]
    · simp [c, ih]
theorem set_f (x y z v : Int) : ∀ l : List (T3 × Int), setK (.row [0, 0, 0]) (.agg [.int .i64 x, .int .i64 y, .int .i64 z]) (.int .i64 v) (encM l) = some (encM (set3 l (x, y, z) v))
  | [] => rfl
  | p :: r => by
    have ih := set_f x y z v r
    simp only [encM, List.map_cons, setK, eqKey_f, set3] at ih ⊢
    by_cases c : p.1 = (x, y, z)
    · simp [c]
    · simp [c, ih]
theorem look_i (x : Int) : ∀ l : List (Int × Int), lookK (.one 0) (.int .i64 x) (encS l) = some ((get1 l x).map (.int .i64))
  | [] => rfl
  | p :: r => by
    have ih := look_i x r
    simp only [encS, List.map_cons, lookK, eqKey, eq1, if_true, get1] at ih ⊢
    by_cases c : p.1 = x
    · simp [c]
    · have : (x == p.1) = false := by simpa using fun e => c e.symm
      simp [c, this, ih]
theorem set_i (x v : Int) : ∀ l : List (Int × Int), setK (.one 0) (.int .i64 x) (.int .i64 v) (encS l) = some (encS (set1 l x v))
  | [] => rfl
  | p :: r => by
    have ih := set_i x v r
    simp only [encS, List.map_cons, setK, eqKey, eq1, if_true, set1] at ih ⊢
    by_cases c : p.1 = x
    · simp [c]
    · have : (x == p.1) = false := by simpa using fun e => c e.symm
      simp [c, this, ih]
theorem get_frk (F : List T3) (i : Int) (h : i.toNat < F.length) : F[i.toNat] = frk F i := by
  simp [frk, List.getD_eq_getElem?_getD, h]
theorem get_frk0 (F : List T3) (h : 0 < F.length) : F[0] = frk F 0 := get_frk F 0 h
theorem get_frk1 (F : List T3) (h : 1 < F.length) : F[1] = frk F 1 := get_frk F 1 h
theorem get_drop (F : List T3) (i : Nat) (h : i < (F.drop 2).length) : (F.drop 2)[i] = frk F ((i : Int) + 2) := by
  have h' : 2 + i < F.length := by simp at h; omega
  simp only [List.getElem_drop]
  have := get_frk F ((i : Int) + 2) (by omega)
  rw [← this]; congr 1; omega
attribute [go_sem] szs_fork keyOk_f keyOk_i look_f set_f look_i set_i get_frk get_frk0 get_frk1 get_drop
end Fil.Bd

namespace Fil.Bd
structure Parts (vars : Int) (n : Nat) (s : Mac) (f g h v0 : Int) (a b : Mac × Int) : Prop where
  lo : 0 ≤ v0
  hi : v0 < vars
  f0 : In vars s.forks (v0 + 1) (halfM vars s.forks f v0 false)
  g0 : In vars s.forks (v0 + 1) (halfM vars s.forks g v0 false)
  h0 : In vars s.forks (v0 + 1) (halfM vars s.forks h v0 false)
  am : MOk vars a.1
  ak : Kept (DoneOk vars) a.1
  al : a.1.forks.length + 2 ^ n ≤ s.forks.length + 2 ^ (n + 1)
  af : s.forks.length ≤ a.1.forks.length
  f1 : In vars a.1.forks (v0 + 1) (halfM vars a.1.forks f v0 true)
  g1 : In vars a.1.forks (v0 + 1) (halfM vars a.1.forks g v0 true)
  h1 : In vars a.1.forks (v0 + 1) (halfM vars a.1.forks h v0 true)
  bl : b.1.forks.length + 2 ≤ s.forks.length + 2 ^ (n + 1)
theorem ite_parts {vars : Int} {n : Nat} {s : Mac} {f g h v : Int} (hm : MOk vars s) (hk : Kept (DoneOk vars) s) (hv0 : 0 ≤ v) (hvn : vars < v + (n + 1 : Nat)) (hf : In vars s.forks v f) (hg : In vars s.forks v g) (hh : In vars s.forks v h) (hf2 : 2 ≤ f)
    {v0 : Int} (e0 : v0 = tops vars s.forks f g h) {a : Mac × Int} (ea : a = iteM vars n s (halfM vars s.forks f v0 false) (halfM vars s.forks g v0 false) (halfM vars s.forks h v0 false))
    {b : Mac × Int} (eb : b = iteM vars n a.1 (halfM vars a.1.forks f v0 true) (halfM vars a.1.forks g v0 true) (halfM vars a.1.forks h v0 true)) : Parts vars n s f g h v0 a b := by
  have hv : v ≤ v0 := by rw [e0]; exact tops_le hf hg hh
  have htop : v0 < vars := by
    have := hm.ok.var f hf2 hf.2.1
    rw [e0]; unfold tops top; rw [if_neg (by omega)]; omega
  have hf' : In vars s.forks v0 f := ⟨hf.1, hf.2.1, by rw [e0]; unfold tops; omega⟩
  have hg' : In vars s.forks v0 g := ⟨hg.1, hg.2.1, by rw [e0]; unfold tops; omega⟩
  have hh' : In vars s.forks v0 h := ⟨hh.1, hh.2.1, by rw [e0]; unfold tops; omega⟩
  clear e0
  obtain ⟨k, hk1⟩ : ∃ k : Nat, v0 + (k + 1 : Nat) = vars := ⟨(vars - v0).toNat - 1, by omega⟩
  have hkn : k + 1 ≤ n := by omega
  have hpow : 2 ^ (k + 1) ≤ 2 ^ n := Nat.pow_le_pow_right (by decide) hkn
  have hp2 : 2 ^ (n + 1) = 2 * 2 ^ n := by rw [Nat.pow_succ]; omega
  have hp1 : 2 ^ (k + 1) = 2 * 2 ^ k := by rw [Nat.pow_succ]; omega
  have m1 := ite_put k n s _ _ _ (v0 + 1) hm hk (by omega) (by omega) (by omega) (half_In htop hm.ok hk1 hf' false) (half_In htop hm.ok hk1 hg' false) (half_In htop hm.ok hk1 hh' false)
  have P1 := put_ok k s.forks (v0 + 1) _ hm.ok (by omega) (by omega) (iteT_len (tab_len s.forks k (v0 + 1) (halfM vars s.forks f v0 false)) (tab_len s.forks k (v0 + 1) (halfM vars s.forks g v0 false)) (tab_len s.forks k (v0 + 1) (halfM vars s.forks h v0 false)))
  rw [← m1.put] at P1
  rw [← ea] at m1 P1
  obtain ⟨la, eqa⟩ := P1.pre
  simp only at eqa
  have hf1 : In vars a.1.forks v0 f := by rw [eqa]; exact hf'.app la
  have hg1 : In vars a.1.forks v0 g := by rw [eqa]; exact hg'.app la
  have hh1 : In vars a.1.forks v0 h := by rw [eqa]; exact hh'.app la
  have m2 := ite_put k n a.1 _ _ _ (v0 + 1) m1.ok m1.kept (by omega) (by omega) (by omega) (half_In htop m1.ok.ok hk1 hf1 true) (half_In htop m1.ok.ok hk1 hg1 true) (half_In htop m1.ok.ok hk1 hh1 true)
  have P2 := put_ok k a.1.forks (v0 + 1) _ m1.ok.ok (by omega) (by omega) (iteT_len (tab_len a.1.forks k (v0 + 1) (halfM vars a.1.forks f v0 true)) (tab_len a.1.forks k (v0 + 1) (halfM vars a.1.forks g v0 true)) (tab_len a.1.forks k (v0 + 1) (halfM vars a.1.forks h v0 true)))
  rw [← m2.put] at P2
  rw [← eb] at m2 P2
  have l1 := P1.len
  have l2 := P2.len
  simp only at l1 l2
  exact ⟨by omega, htop, half_In htop hm.ok hk1 hf' false, half_In htop hm.ok hk1 hg' false, half_In htop hm.ok hk1 hh' false, m1.ok, m1.kept, by omega, by rw [eqa]; simp,
    half_In htop m1.ok.ok hk1 hf1 true, half_In htop m1.ok.ok hk1 hg1 true, half_In htop m1.ok.ok hk1 hh1 true, by omega⟩
end Fil.Bd

namespace Fil.Bd
def und (F : List T3) (n v i : Int) : Bool := decide (0 ≤ n ∧ n < i ∧ (n < 2 ∨ v < (frk F n).1))
def atL (F : List T3) : Nat → List (T3 × Int)
  | 0 => []
  | j + 1 => set3 (atL F j) (frk F (j + 2)) (j + 2)
theorem at_some (F : List T3) (x : T3) : ∀ j, (get3 (atL F j) x).isSome = true ↔ ∃ i, i < j ∧ frk F (i + 2) = x
  | 0 => by simp [atL, get3]
  | j + 1 => by
    rw [atL, get_set]
    split
    · rename_i e
      simp only [Option.isSome_some, true_iff]
      exact ⟨j, by omega, e⟩
    · rename_i e
      rw [at_some F x j]
      constructor
      · rintro ⟨i, h1, h2⟩; exact ⟨i, by omega, h2⟩
      · rintro ⟨i, h1, h2⟩
        have : i ≠ j := fun e' => e (by rw [← h2, e'])
        exact ⟨i, by omega, h2⟩
def bad (vars : Int) (F : List T3) (j : Nat) : Bool :=
  (get3 (atL F j) (frk F (j + 2))).isSome || decide ((frk F (j + 2)).1 < 0) || decide (vars ≤ (frk F (j + 2)).1) || decide ((frk F (j + 2)).2.1 = (frk F (j + 2)).2.2) ||
    !und F (frk F (j + 2)).2.1 (frk F (j + 2)).1 (j + 2) || !und F (frk F (j + 2)).2.2 (frk F (j + 2)).1 (j + 2)
def head (vars : Int) (F : List T3) : Bool := decide (vars < 0) || decide (32 < vars) || decide (F.length < 2) || decide (frk F 0 ≠ (-1, 0, 0)) || decide (frk F 1 ≠ (-1, 0, 0))
def chk (vars : Int) (F : List T3) : Int :=
  if 65536 < F.length then 220 else if head vars F = true then 1 else if (List.range (F.length - 2)).any (bad vars F) = true then 1 else 0
structure Fine (vars : Int) (F : List T3) : Prop extends Ok vars F where
  few : vars ≤ 32
  all : F.length ≤ 65536
  end0 : frk F 0 = (-1, 0, 0)
  end1 : frk F 1 = (-1, 0, 0)
theorem und_iff {F n v i} : und F n v i = true ↔ 0 ≤ n ∧ n < i ∧ (n < 2 ∨ v < (frk F n).1) := by simp [und]
theorem bad_iff {vars F j} : bad vars F j = false ↔ (∀ i, i < j → frk F (i + 2) ≠ frk F (j + 2)) ∧ 0 ≤ (frk F (j + 2)).1 ∧ (frk F (j + 2)).1 < vars ∧ (frk F (j + 2)).2.1 ≠ (frk F (j + 2)).2.2 ∧
    und F (frk F (j + 2)).2.1 (frk F (j + 2)).1 (j + 2) = true ∧ und F (frk F (j + 2)).2.2 (frk F (j + 2)).1 (j + 2) = true := by
  have h := at_some F (frk F (j + 2)) j
  have h' : (get3 (atL F j) (frk F (j + 2))).isSome = false ↔ ∀ i, i < j → frk F (i + 2) ≠ frk F (j + 2) := by
    rw [← Bool.not_eq_true, h]
    exact ⟨fun q i h1 h2 => q ⟨i, h1, h2⟩, fun q ⟨i, h1, h2⟩ => q i h1 h2⟩
  simp only [bad, Bool.or_eq_false_iff, h', Bool.not_eq_false', decide_eq_false_iff_not, Int.not_lt, Int.not_le, and_assoc]
theorem head_iff {vars F} : head vars F = false ↔ 0 ≤ vars ∧ vars ≤ 32 ∧ 2 ≤ F.length ∧ frk F 0 = (-1, 0, 0) ∧ frk F 1 = (-1, 0, 0) := by
  simp only [head, Bool.or_eq_false_iff, decide_eq_false_iff_not, Int.not_lt, Nat.not_lt, Decidable.not_not, and_assoc]
theorem chk_fine {vars F} : chk vars F = 0 ↔ Fine vars F := by
  have step : ∀ {j : Nat}, (frk F (j + 2)).1 < vars → ∀ n, (und F n (frk F (j + 2)).1 (j + 2) = true ↔ 0 ≤ n ∧ n < j + 2 ∧ (frk F (j + 2)).1 < top vars F n) := fun {j} hv n => by
    rw [und_iff]
    unfold top
    split <;> constructor <;> (intro ⟨a, b, c⟩; refine ⟨a, b, ?_⟩; omega)
  constructor
  · intro h
    unfold chk at h
    split at h
    · simp at h
    split at h
    · simp at h
    split at h
    · simp at h
    rename_i h1 h2 h3
    obtain ⟨k1, k2, k3, k4, k5⟩ := head_iff.1 (by simpa using h2)
    have hall : ∀ j : Nat, j + 2 < F.length → bad vars F j = false := fun j hj => by
      have := h3
      simp only [List.any_eq_true, List.mem_range, not_exists, not_and, Bool.not_eq_true] at this
      exact this j (by omega)
    have conv : ∀ i : Int, 2 ≤ i → i < F.length → ∃ j : Nat, i = j + 2 ∧ j + 2 < F.length := fun i a b => ⟨i.toNat - 2, by omega, by omega⟩
    refine ⟨⟨k3, k1, ?_, ?_, ?_, ?_, ?_⟩, k2, by omega, k4, k5⟩
    · intro i a b
      obtain ⟨j, rfl, hj⟩ := conv i a b
      have := bad_iff.1 (hall j hj)
      exact ⟨this.2.1, this.2.2.1⟩
    · intro i a b
      obtain ⟨j, rfl, hj⟩ := conv i a b
      exact (bad_iff.1 (hall j hj)).2.2.2.1
    · intro i a b
      obtain ⟨j, rfl, hj⟩ := conv i a b
      have := bad_iff.1 (hall j hj)
      exact (step this.2.2.1 _).1 this.2.2.2.2.1
    · intro i a b
      obtain ⟨j, rfl, hj⟩ := conv i a b
      have := bad_iff.1 (hall j hj)
      exact (step this.2.2.1 _).1 this.2.2.2.2.2
    · intro i i' a b a' b' e
      obtain ⟨j, rfl, hj⟩ := conv i a b
      obtain ⟨j', rfl, hj'⟩ := conv i' a' b'
      rcases Nat.lt_trichotomy j j' with h | h | h
      · exact absurd e ((bad_iff.1 (hall j' hj')).1 j h)
      · rw [h]
      · exact absurd e.symm ((bad_iff.1 (hall j hj)).1 j' h)
  · intro h
    have h2 := h.two
    unfold chk
    have hh : head vars F = false := head_iff.2 ⟨h.lo, h.few, h2, h.end0, h.end1⟩
    have ha : (List.range (F.length - 2)).any (bad vars F) = false := by
      rw [List.any_eq_false]
      intro j hj
      rw [Bool.not_eq_true]
      have hj' : j < F.length - 2 := List.mem_range.1 hj
      have v := h.var (j + 2) (by omega) (by omega)
      refine bad_iff.2 ⟨fun i hi e => ?_, v.1, v.2, h.ne (j + 2) (by omega) (by omega), (step v.2 _).2 (h.low (j + 2) (by omega) (by omega)), (step v.2 _).2 (h.high (j + 2) (by omega) (by omega))⟩
      have := h.uniq (i + 2) (j + 2) (by omega) (by omega) (by omega) (by omega) e
      omega
    rw [if_neg (by have := h.all; omega), if_neg (by simp [hh]), if_neg (by simp [ha])]
def mac (F : List T3) : Mac := ⟨F, atL F (F.length - 2), []⟩
theorem mac_ok {vars F} (h : Ok vars F) : MOk vars (mac F) := by
  have key : ∀ j : Nat, j + 2 ≤ F.length → (∀ x n, get3 (atL F j) x = some n → 2 ≤ n ∧ n < j + 2 ∧ frk F n = x) ∧ (∀ n : Int, 2 ≤ n → n < j + 2 → get3 (atL F j) (frk F n) = some n) := by
    intro j
    induction j with
    | zero => intro hj; exact ⟨fun x n e => by simp [atL, get3] at e, fun n a b => by omega⟩
    | succ j ih =>
      intro hj
      obtain ⟨q1, q2⟩ := ih (by omega)
      refine ⟨fun x n e => ?_, fun n a b => ?_⟩
      · rw [atL, get_set] at e
        split at e
        · rename_i e'
          simp at e; subst e; exact ⟨by omega, by omega, e'⟩
        · obtain ⟨a, b, c⟩ := q1 x n e
          exact ⟨a, by omega, c⟩
      · rw [atL, get_set]
        by_cases c : n = j + 2
        · subst c; rw [if_pos rfl]
        · rw [if_neg (fun e => c (h.uniq n (j + 2) a (by omega) (by omega) (by omega) e.symm)), q2 n a (by omega)]
  have h2 := h.two
  obtain ⟨q1, q2⟩ := key (F.length - 2) (by omega)
  exact ⟨h, fun x n e => by obtain ⟨a, b, c⟩ := q1 x n e; exact ⟨a, by show n < F.length; omega, c⟩, fun n a b => q2 n a (by have : n < F.length := b; omega)⟩
theorem mac_kept {vars F} : Kept (DoneOk vars) (mac F) := fun k n e => by simp [mac, get3] at e
end Fil.Bd

