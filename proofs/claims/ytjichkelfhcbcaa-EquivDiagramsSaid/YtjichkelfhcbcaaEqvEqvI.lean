/- equiv: contracts of the statements' own functions; EquivSame. -/
import Derived.Test.YtjichkelfhcbcaaAbsU
import Derived.Test.YtjichkelfhcbcaaEqvEqvD
set_option linter.unusedSimpArgs false
set_option linter.unusedVariables false
namespace Fil.Eqv
open Abs
theorem lit_I64 {m : Aig} {a : Int} (hf : Fine m) (h : m.lit a = true) : I64 a := by
  have := litN_iff.1 h
  have := hf.cnt
  exact ⟨by omega, by omega⟩
theorem zs {g : Aig} (h : Ok g) : (((List.replicate (g.ins + g.flops.length).toNat false).length + 1 : Nat) : Int) = g.first := by
  have := h.lo
  unfold Aig.first; rw [zeros]; omega
def mAt (g h : Aig) (i : Nat) : Aig × List Int := (h.ands.take i).foldl mAnd (m0 g, to0 g)
theorem mAt_ok {g h : Aig} (t : Two g h) {s : List Bool} (hs : ((s.length + 1 : Nat) : Int) = g.first) {i : Nat} (hi : i ≤ h.ands.length) :
    Mov g (g.ands.length + i) (mAt g h i).1 (mAt g h i).2 s (Aig.vals (false :: s) (h.ands.take i)) ∧ (mAt g h i).2.length = s.length + 1 + i := by
  have k := to0_ok t.gg.wf t.gg.check t.gg.eight hs
  have hk : (to0 g).length = s.length + 1 := by rw [k.len]; simp
  have hg := good_gates t.hh.good
  rw [t.first, ← hs] at hg
  have hf := t.few
  have hl : (h.ands.take i).length = i := by simp; omega
  have hgi : Aig.gatesOk (s.length + 1 : Nat) (h.ands.take i) = true := by
    have e := List.take_append_drop i h.ands
    rw [← e, gatesOk_append, Bool.and_eq_true] at hg
    exact hg.1
  have := mov_ands (h.ands.take i) g.ands.length (m0 g, to0 g) (false :: s) k (by omega) (by rw [hk]; exact hgi)
  rw [hk, hl] at this
  exact this
structure Std (to : List Int) (l : Int) : Prop where
  pos : 0 ≤ l
  lt : (l / 2).toNat < to.length
  few : l ≤ 4611686018427387904
  lo : 0 ≤ to.getD (l / 2).toNat 0
  hi : to.getD (l / 2).toNat 0 ≤ 4611686018427387904
theorem std_of {g m : Aig} {N : Nat} {to : List Int} {s v : List Bool} (h : Mov g N m to s v) {l : Int} (h0 : 0 ≤ l) (h1 : l < 2 * to.length) (h2 : to.length ≤ 1000000) : Std to l := by
  have hl := h.lit _ (mem_getD (show (l / 2).toNat < to.length by omega))
  have := litN_iff.1 hl
  have := h.mi.fine.cnt
  exact ⟨h0, by omega, by omega, by omega, by omega⟩
theorem m_step {g h : Aig} (t : Two g h) {i : Nat} (hi : i < h.ands.length) : ∃ y, Std (mAt g h i).2 h.ands[i].1 ∧ Std (mAt g h i).2 h.ands[i].2 ∧ Wf (mAt g h i).1 ∧
    I64 (moveL (mAt g h i).2 h.ands[i].1) ∧ I64 (moveL (mAt g h i).2 h.ands[i].2) ∧
    (mAt g h i).1.And (moveL (mAt g h i).2 h.ands[i].1) (moveL (mAt g h i).2 h.ands[i].2) = ((mAt g h (i + 1)).1, y, 0) ∧ (mAt g h (i + 1)).2 = (mAt g h i).2 ++ [y] ∧ (mAt g h i).2.length ≤ 1000 := by
  have hs := zs t.gg
  obtain ⟨r1, r2⟩ := mAt_ok t hs (Nat.le_of_lt hi)
  have hg := gatesOk_iff.1 (good_gates t.hh.good) i hi
  rw [t.first, ← hs] at hg
  obtain ⟨g1, g2⟩ := hg
  have hf := t.few
  have h8 := t.gg.eight
  have hlo := t.gg.lo
  rw [zeros] at r2 g1 g2
  have l1 : 0 ≤ h.ands[i].1 ∧ h.ands[i].1 < 2 * ((mAt g h i).2.length : Int) := by rw [r2]; omega
  have l2 : 0 ≤ h.ands[i].2 ∧ h.ands[i].2 < 2 * ((mAt g h i).2.length : Int) := by rw [r2]; omega
  obtain ⟨_, k2, k3, k4⟩ := mov_and r1 (by omega) l1 l2
  have e : mAt g h (i + 1) = mAnd (mAt g h i) h.ands[i] := by
    unfold mAt
    rw [take_succ hi, List.foldl_append]; rfl
  refine ⟨((mAt g h i).1.And (moveL (mAt g h i).2 h.ands[i].1) (moveL (mAt g h i).2 h.ands[i].2)).2.1, std_of r1 l1.1 l1.2 (by omega), std_of r1 l2.1 l2.2 (by omega), wf_of r1.mi.fine, lit_I64 r1.mi.fine k3, lit_I64 r1.mi.fine k4, ?_, ?_, by omega⟩
  · rw [e]; exact Prod.ext rfl (Prod.ext rfl k2)
  · rw [e]; rfl
theorem m_all {g h : Aig} : mAt g h h.ands.length = bodyM g h := by unfold mAt bodyM; rw [List.take_length]
def dAt (g h : Aig) (i : Nat) : Aig × Int := ((pairsM g h).take i).foldl mDiff ((bodyM g h).1, 0)
theorem d_all {g h : Aig} : dAt g h (pairsM g h).length = miterS g h := by unfold dAt miterS; rw [List.take_length]
theorem body_lits {g h : Aig} (t : Two g h) : (∀ b ∈ lits h, Std (bodyM g h).2 b) ∧ (bodyM g h).2.length ≤ 1000 := by
  have hs := zs t.gg
  obtain ⟨r1, r2⟩ := bodyM_ok t hs
  have hf := t.few
  have h8 := t.gg.eight
  have hlo := t.gg.lo
  rw [zeros] at r2
  refine ⟨fun b hb => ?_, by omega⟩
  have := lit_at (g := h) (by rw [t.first]; exact hs) (t.hh.lits b hb)
  rw [zeros] at this
  exact std_of r1 this.1 (by omega) (by omega)
theorem d_step {g h : Aig} (t : Two g h) {i : Nat} (hi : i < (pairsM g h).length) : ∃ m d, Wf (dAt g h i).1 ∧ I64 (pairsM g h)[i].1 ∧ I64 (pairsM g h)[i].2 ∧ (dAt g h i).1.Xor (pairsM g h)[i].1 (pairsM g h)[i].2 = (m, d, 0) ∧
    Wf m ∧ I64 (dAt g h i).2 ∧ I64 d ∧ m.Or (dAt g h i).2 d = ((dAt g h (i + 1)).1, (dAt g h (i + 1)).2, 0) := by
  have hs := zs t.gg
  obtain ⟨b1, b2⟩ := bodyM_ok t hs
  have hf := t.few
  have h8 := t.gg.eight
  have hlo := t.gg.lo
  have ho := t.gg.outs
  have hpl := t.pairs
  have hlt : ((pairsM g h).take i).length = i := by simp; omega
  have h0 : (bodyM g h).1.lit 0 = true := litN_iff.2 (by
    have := b1.mi.fine.lo
    unfold Aig.count; omega)
  have hpr := pairs_lit t hs
  obtain ⟨d1, d2, d3, _⟩ := mov_diffs hs ((pairsM g h).take i) (g.ands.length + h.ands.length) (bodyM g h).1 0 b1.mi (fun p hp => hpr p (List.mem_of_mem_take hp)) h0 (by omega)
  rw [hlt] at d1
  have hp := hpr _ (List.getElem_mem hi)
  obtain ⟨x1, x2, x3, x4⟩ := mi_xor d1 (by omega) (d2.lit hp.1) (d2.lit hp.2)
  obtain ⟨y1, y2, y3, y4⟩ := mi_or x2 (by omega) (x3.lit d3) x4
  have e : dAt g h (i + 1) = mDiff (dAt g h i) (pairsM g h)[i] := by
    unfold dAt
    rw [List.take_add_one, List.getElem?_eq_getElem hi, List.foldl_append]; rfl
  refine ⟨_, _, wf_of d1.fine, lit_I64 d1.fine (d2.lit hp.1), lit_I64 d1.fine (d2.lit hp.2), Prod.ext rfl (Prod.ext rfl x1), wf_of x2.fine, lit_I64 d1.fine d3, lit_I64 x2.fine x4, ?_⟩
  rw [e]
  exact Prod.ext rfl (Prod.ext rfl y1)
end Fil.Eqv

namespace Go.Proofs.Ytjichkelfhcbcaa
open Abs Fil Fil.Eqv
def chk2 (g h : Aig) : Int := if g.check ≠ 0 then g.check else h.check
theorem eq_checked (g h : Aig) (σ : Sig) (hg : Wf g) (hh : Wf h) : ACalls Try.prog 47 [.slice [encAig g, encAig h] .no] σ (fun r σ' => r = .ret (.int .i64 (chk2 g h)) ∧ σ' = σ) := by
  refine calls_x mixed Try.func47 b47 n47 rfl q47 (by simp) ?_; unfold c47 r47
  repeat' (first | simp (maxDischargeDepth := 9) -implicitDefEqProofs -dsimp only [go_sem, seval, *] | simp (disch := omega) only [wrap64] | ((with_reducible refine Zt (fun oF hoF hnF hnF' => ?_)); (try simp only [upd_none, ne_eq, not_and] at hoF)))
  refine loop_rule (fun i : Nat => [(8, some (.int .i64 i)), (7, some (.int .i64 2)), (6, some (.slice [encAig g, encAig h] .no))]) (fun _ => σ) (fun i => i ≤ 2 ∧ (1 ≤ i → g.check = 0) ∧ (2 ≤ i → h.check = 0)) (fun i => 2 - i) 0 ?_ ?_
  · (repeat' (first | simp (maxDischargeDepth := 9) -implicitDefEqProofs -dsimp only [go_sem, seval, *] | simp (disch := omega) only [wrap64])) <;> (repeat' refine And.intro ?_ ?_) <;> (first | omega | rfl | assumption | skip)
    all_goals simp
  · rintro i ⟨hi, c1, c2⟩
    have ez : ((0 : Int) != 0) = false := by decide
    match i, hi with
    | 0, _ =>
      clear c1 c2
      obtain ⟨e, he⟩ : ∃ e, g.check = e := ⟨_, rfl⟩
      by_cases h0 : e = 0
      · subst h0
        repeat' (first | simp (maxDischargeDepth := 9) -implicitDefEqProofs -dsimp only [go_sem, seval, *] | simp (disch := omega) only [wrap64] | ((with_reducible refine Zt (fun oF hoF hnF hnF' => ?_)); (try simp only [upd_none, ne_eq, not_and] at hoF)) | ((with_reducible apply ACalls.one1); (focus ((first | with_reducible refine A.aig_Check g _ hg) <;> (first | (simp (maxDischargeDepth := 9) -implicitDefEqProofs -dsimp only [go_sem, seval, *]; done) | omega))); (focus (first | trivial | with_reducible exact rfl | (simp (maxDischargeDepth := 9) -implicitDefEqProofs -dsimp only [go_sem, seval]; done)))))
        refine loop_next _ _ _ _ (1) ?_; (repeat' (first | simp (maxDischargeDepth := 9) -implicitDefEqProofs -dsimp only [go_sem, seval, *] | simp (disch := omega) only [wrap64])) <;> (repeat' refine And.intro ?_ ?_) <;> (first | omega | rfl | assumption | skip)
        all_goals simp
      · have hb : (e != 0) = true := by simpa using h0
        have hv : chk2 g h = e := by unfold chk2; rw [he, if_pos h0]
        rw [hv]
        repeat' (first | simp (maxDischargeDepth := 9) -implicitDefEqProofs -dsimp only [go_sem, seval, *] | simp (disch := omega) only [wrap64] | ((with_reducible refine Zt (fun oF hoF hnF hnF' => ?_)); (try simp only [upd_none, ne_eq, not_and] at hoF)) | ((with_reducible apply ACalls.one1); (focus ((first | with_reducible refine A.aig_Check g _ hg) <;> (first | (simp (maxDischargeDepth := 9) -implicitDefEqProofs -dsimp only [go_sem, seval, *]; done) | omega))); (focus (first | trivial | with_reducible exact rfl | (simp (maxDischargeDepth := 9) -implicitDefEqProofs -dsimp only [go_sem, seval]; done)))))
        refine fin_eq ?_
        (repeat' (first | simp (maxDischargeDepth := 9) -implicitDefEqProofs -dsimp only [go_sem, seval, *] | simp (disch := omega) only [wrap64])) <;> (repeat' refine And.intro ?_ ?_) <;> (first | omega | rfl | assumption | skip)
    | 1, _ =>
      have g0 := c1 (by omega)
      clear c1 c2
      obtain ⟨e, he⟩ : ∃ e, h.check = e := ⟨_, rfl⟩
      by_cases h0 : e = 0
      · subst h0
        repeat' (first | simp (maxDischargeDepth := 9) -implicitDefEqProofs -dsimp only [go_sem, seval, *] | simp (disch := omega) only [wrap64] | ((with_reducible refine Zt (fun oF hoF hnF hnF' => ?_)); (try simp only [upd_none, ne_eq, not_and] at hoF)) | ((with_reducible apply ACalls.one1); (focus ((first | with_reducible refine A.aig_Check h _ hh) <;> (first | (simp (maxDischargeDepth := 9) -implicitDefEqProofs -dsimp only [go_sem, seval, *]; done) | omega))); (focus (first | trivial | with_reducible exact rfl | (simp (maxDischargeDepth := 9) -implicitDefEqProofs -dsimp only [go_sem, seval]; done)))))
        refine loop_next _ _ _ _ (2) ?_; (repeat' (first | simp (maxDischargeDepth := 9) -implicitDefEqProofs -dsimp only [go_sem, seval, *] | simp (disch := omega) only [wrap64])) <;> (repeat' refine And.intro ?_ ?_) <;> (first | omega | rfl | assumption | skip)
        all_goals simp
      · have hb : (e != 0) = true := by simpa using h0
        have hv : chk2 g h = e := by unfold chk2; rw [g0, if_neg (by simp), he]
        rw [hv]
        repeat' (first | simp (maxDischargeDepth := 9) -implicitDefEqProofs -dsimp only [go_sem, seval, *] | simp (disch := omega) only [wrap64] | ((with_reducible refine Zt (fun oF hoF hnF hnF' => ?_)); (try simp only [upd_none, ne_eq, not_and] at hoF)) | ((with_reducible apply ACalls.one1); (focus ((first | with_reducible refine A.aig_Check h _ hh) <;> (first | (simp (maxDischargeDepth := 9) -implicitDefEqProofs -dsimp only [go_sem, seval, *]; done) | omega))); (focus (first | trivial | with_reducible exact rfl | (simp (maxDischargeDepth := 9) -implicitDefEqProofs -dsimp only [go_sem, seval]; done)))))
        refine fin_eq ?_
        (repeat' (first | simp (maxDischargeDepth := 9) -implicitDefEqProofs -dsimp only [go_sem, seval, *] | simp (disch := omega) only [wrap64])) <;> (repeat' refine And.intro ?_ ?_) <;> (first | omega | rfl | assumption | skip)
    | 2, _ =>
      have g0 := c1 (by omega)
      have h0 := c2 (by omega)
      have hv : chk2 g h = 0 := by unfold chk2; rw [g0, if_neg (by simp), h0]
      rw [hv]
      clear c1 c2
      repeat' (first | simp (maxDischargeDepth := 9) -implicitDefEqProofs -dsimp only [go_sem, seval, *] | simp (disch := omega) only [wrap64] | ((with_reducible refine Zt (fun oF hoF hnF hnF' => ?_)); (try simp only [upd_none, ne_eq, not_and] at hoF)))
      refine fin_eq ?_
      (repeat' (first | simp (maxDischargeDepth := 9) -implicitDefEqProofs -dsimp only [go_sem, seval, *] | simp (disch := omega) only [wrap64])) <;> (repeat' refine And.intro ?_ ?_) <;> (first | omega | rfl | assumption | skip)
theorem xor0 (a : Int) (h1 : -9223372036854775808 ≤ a) (h2 : a ≤ 9223372036854775807) : IntKind.i64.wrap ((BitVec.ofInt IntKind.i64.bits a ^^^ BitVec.ofInt IntKind.i64.bits 0).toNat : Nat) = a := by
  have e : (BitVec.ofInt 64 a ^^^ BitVec.ofInt 64 0).toNat = (a % 18446744073709551616).toNat := by
    rw [BitVec.toNat_xor, ofInt_nat, ofInt_nat]; simp
  show IntKind.i64.wrap ((BitVec.ofInt 64 a ^^^ BitVec.ofInt 64 0).toNat : Nat) = a
  rw [e]
  simp [IntKind.wrap, IntKind.signed, IntKind.bits]; omega
theorem eq_stands (o : Nat) (to : List Int) (t : Tok) (l : Int) (σ : Sig) (ho : σ o = some (.cells [.slice (to.map encInt) t])) (h : Std to l) :
    ACalls Try.prog 49 [.int .i64 l, .ptr o 0] σ (fun r σ' => r = .ret (.int .i64 (moveL to l)) ∧ σ' = σ) := by
  refine calls_x mixed Try.func49 b49 n49 rfl q49 (by simp) ?_; unfold c49 r49
  obtain ⟨h0, h1, h2, h3, h4⟩ := h
  have hg : to[(l / 2).toNat] = to.getD (l / 2).toNat 0 := by simp [List.getD_eq_getElem?_getD, h1]
  obtain ⟨f, hf⟩ : ∃ f, to.getD (l / 2).toNat 0 = f := ⟨_, rfl⟩
  rw [hf] at hg h3 h4
  by_cases c : l % 2 = 0
  · have hw : moveL to l = f := by unfold moveL; rw [if_pos c, hf]
    rw [hw]
    have hx := xor0 f (by omega) (by omega)
    repeat' (first | simp (maxDischargeDepth := 9) -implicitDefEqProofs -dsimp only [go_sem, seval, *] | simp (disch := omega) only [and1, xor1, shr1'] | ((with_reducible refine Zv ?_ ?_); focus (first | omega | exact rfl)) | ((with_reducible refine Zu ?_ ?_); focus omega))
    refine fin_eq ?_
    (repeat' (first | simp (maxDischargeDepth := 9) -implicitDefEqProofs -dsimp only [go_sem, seval, *] | simp (disch := omega) only [and1, xor1, shr1'])) <;> (repeat' refine And.intro ?_ ?_) <;> (first | omega | rfl | assumption | skip)
  · have c1 : l % 2 = 1 := by omega
    have hw : moveL to l = turn f := by unfold moveL; rw [if_neg c, hf]
    rw [hw]
    repeat' (first | simp (maxDischargeDepth := 9) -implicitDefEqProofs -dsimp only [go_sem, seval, *] | simp (disch := omega) only [and1, xor1, shr1'] | ((with_reducible refine Zv ?_ ?_); focus (first | omega | exact rfl)) | ((with_reducible refine Zu ?_ ?_); focus omega))
    refine fin_eq ?_
    (repeat' (first | simp (maxDischargeDepth := 9) -implicitDefEqProofs -dsimp only [go_sem, seval, *] | simp (disch := omega) only [and1, xor1, shr1'])) <;> (repeat' refine And.intro ?_ ?_) <;> (first | omega | rfl | assumption | skip)
theorem eq_mput (k : Nat) (o p : Nat) (m m' : Aig) (a b x : Int) (σ : Sig) (h4 : σ p = some (.cells (aigL m))) (h5 : σ o = some (.cells [.int .i64 0]))
    (hc : ACalls Try.prog k [encAig m, .int .i64 a, .int .i64 b] σ (fun r σ' => r = .ret (.tup [encAig m', .int .i64 x, .int .i64 0]) ∧ σ' = σ)) :
    ACalls Try.prog 50 [.fn k [] [], .int .i64 a, .int .i64 b, .ptr o 0, .ptr p 0] σ (fun r σ' => r = .ret (.int .i64 x) ∧ σ' = upd σ p (.cells (aigL m'))) := by
  refine calls_x mixed Try.func50 b50 n50 rfl q50 (by simp) ?_; unfold c50 r50
  have ez : ((0 : Int) != 0) = false := by decide
  repeat' (first | simp (maxDischargeDepth := 9) -implicitDefEqProofs -dsimp only [go_sem, seval, List.nil_append, List.append_nil, *] | ((with_reducible refine Zt (fun oF hoF hnF hnF' => ?_)); (try simp only [upd_none, ne_eq, not_and] at hoF)) | ((with_reducible apply ACalls.one1); (focus ((first | with_reducible refine hc) <;> (first | (simp (maxDischargeDepth := 9) -implicitDefEqProofs -dsimp only [go_sem, seval, *]; done) | omega))); (focus (first | trivial | with_reducible exact rfl | (simp (maxDischargeDepth := 9) -implicitDefEqProofs -dsimp only [go_sem, seval]; done)))))
  refine fin_eq ?_
  (repeat' (first | simp (maxDischargeDepth := 9) -implicitDefEqProofs -dsimp only [go_sem, seval, *])) <;> (repeat' refine And.intro ?_ ?_) <;> (first | omega | rfl | assumption | skip)
end Go.Proofs.Ytjichkelfhcbcaa

namespace Go.Proofs.Ytjichkelfhcbcaa
open Abs Fil Fil.Eqv
abbrev noAig : Aig := ⟨0, [], [], []⟩
theorem eq_Miter_arg (g h : Aig) (hg : Wf g) (hh : Wf h) (he : chk2 g h = 0) (h0 : ¬ (g.ins = h.ins ∧ g.flops.length = h.flops.length ∧ g.outs.length = h.outs.length)) (σ : Sig) :
    ACalls Try.prog 18 [encAig g, encAig h] σ (fun r σ' => r = .ret (.tup [encAig noAig, .int .i64 1]) ∧ σ' = σ) := by
  refine calls_x mixed Try.func18 b18 n18 rfl q18 (by simp) ?_; unfold c18 r18
  have ez : ((0 : Int) != 0) = false := by decide
  have hb : (g.ins == h.ins && ((g.flops.length : Int) == h.flops.length && (g.outs.length : Int) == h.outs.length)) = false := by
    rw [← Bool.not_eq_true]
    intro e
    simp only [Bool.and_eq_true, beq_iff_eq] at e
    exact h0 ⟨e.1, by omega, by omega⟩
  repeat' (first | simp (maxDischargeDepth := 9) -implicitDefEqProofs -dsimp only [go_sem, seval, *] | ((with_reducible refine Zt (fun oF hoF hnF hnF' => ?_)); clear hnF hnF'; (try simp only [Zw, ne_eq] at hoF)) | ((with_reducible apply ACalls.one1); (focus ((first | with_reducible refine eq_checked g h _ hg hh | with_reducible refine ACalls.flA (eq_checked g h _ hg hh) ?_) <;> (first | (simp (maxDischargeDepth := 9) -implicitDefEqProofs -dsimp only [go_sem, seval, *]; done) | omega))); (focus (first | trivial | with_reducible exact rfl | (simp (maxDischargeDepth := 9) -implicitDefEqProofs -dsimp only [go_sem, seval]; done)))))
  all_goals (refine fin_eq ?_; (repeat' (first | simp (maxDischargeDepth := 9) -implicitDefEqProofs -dsimp only [go_sem, seval, List.map_nil, *])) <;> (repeat' refine And.intro ?_ ?_) <;> (first | omega | rfl | assumption | skip); done)
theorem each0 (o k : Nat) (first caps : List AV) (a b L : List Int) (x : AObj) (σ : Sig) (h0 : σ o = some x) (hL : L.length = a.length + b.length) (hl : a.length + b.length ≤ 1000000)
    (hc : ∀ i (hi : i < (a ++ b).length) (τ : Sig), τ o = some x → ACalls Try.prog k (first ++ [.int .i64 (a ++ b)[i]] ++ caps) τ (fun r s => r = .ret (.int .i64 (L.getD i 0)) ∧ s = τ)) :
    ACalls Try.prog 41 [.fn k first caps, .slice [.slice (a.map encInt) .no, .slice (b.map encInt) .no] .no] σ (fun r σ' => r = .ret (.slice (L.map encInt) .no) ∧ σ' = σ) := by
  have := eq_each o k first caps a b L (fun _ => x) σ h0 hL hl fun i hi τ hτ => by rw [upd_self hτ]; exact hc i hi τ hτ
  rw [upd_self h0] at this
  exact this
theorem shl1 (a : Int) (h0 : 0 ≤ a) (h : a ≤ 1000) : IntKind.i64.wrap (a * 2 ^ Nat.min 1 64) = 2 * a := by
  have : (2 : Int) ^ Nat.min 1 64 = 2 := by decide
  rw [this, Int.mul_comm]
  exact wrap64 _ (by omega) (by omega)
set_option maxRecDepth 20000 in
set_option maxHeartbeats 4000000 in
theorem eq_Miter (g h : Aig) (t : Two g h) (σ : Sig) :
    ACalls Try.prog 18 [encAig g, encAig h] σ (fun r σ' => r = .ret (.tup [encAig (miterM g h), .int .i64 0]) ∧ σ' = σ) := by
  refine ACalls.virt (callable_of Try.func18 b18 n18) 1 (fun oV1 hoV1 hnV1 hnV1' => ?_); (try simp only [upd_none, ne_eq, not_and] at hoV1); refine calls_x mixed Try.func18 b18 n18 rfl q18 (by simp) ?_; unfold c18 r18
  have ez : ((0 : Int) != 0) = false := by decide
  have hck : chk2 g h = 0 := by unfold chk2; rw [t.gg.check, if_neg (by simp), t.hh.check]
  have hg := t.gg.wf
  have hh := t.hh.wf
  have hins := t.ins
  have hfl := t.flops
  have hou := t.outs
  have hlo := t.gg.lo
  have h8 := t.gg.eight
  have hfew := t.few
  have hb : (g.ins == h.ins && ((g.flops.length : Int) == h.flops.length && (g.outs.length : Int) == h.outs.length)) = true := by
    simp [hins, hfl, hou]
  have e1 : g.ins ≤ h.ins ∧ h.ins ≤ g.ins := by omega
  have e2 : g.flops.length ≤ h.flops.length ∧ h.flops.length ≤ g.flops.length := by omega
  have e3 : g.outs.length ≤ h.outs.length ∧ h.outs.length ≤ g.outs.length := by omega
  have hal : g.ands.length ≤ 1000000 := by omega
  clear hins hfl hou
  repeat' (first | simp (maxDischargeDepth := 9) -implicitDefEqProofs -dsimp only [go_sem, seval, *] | simp (disch := omega) only [wrap64] | ((with_reducible refine Zv ?_ ?_); focus (first | omega | exact rfl)) | ((with_reducible refine Zu ?_ ?_); focus omega) | ((with_reducible refine Zt (fun oF hoF hnF hnF' => ?_)); clear hnF hnF'; (try simp only [Zw, ne_eq] at hoF)) | ((with_reducible apply ACalls.one1); (focus ((first | with_reducible refine eq_checked g h _ hg hh | with_reducible refine sl_cloneGate g.ands _ hal | with_reducible refine ACalls.flA (eq_checked g h _ hg hh) ?_ | with_reducible refine ACalls.flA (sl_cloneGate g.ands _ hal) ?_) <;> (first | (simp (maxDischargeDepth := 9) -implicitDefEqProofs -dsimp only [go_sem, seval, *]; done) | omega))); (focus (first | trivial | with_reducible exact rfl | (simp (maxDischargeDepth := 9) -implicitDefEqProofs -dsimp only [go_sem, seval]; done)))) | ((with_reducible apply id_one0); (focus (intro tS hS; ((first | with_reducible refine eq_checked g h _ hg hh | with_reducible refine sl_cloneGate g.ands _ hal | with_reducible refine ACalls.flA (eq_checked g h _ hg hh) ?_ | with_reducible refine ACalls.flA (sl_cloneGate g.ands _ hal) ?_) <;> (first | (simp (maxDischargeDepth := 9) -implicitDefEqProofs -dsimp only [go_sem, seval, *]; done) | omega | ((with_reducible refine Sub.get hS ?_); simp (maxDischargeDepth := 9) -implicitDefEqProofs -dsimp only [go_sem, seval, *]; done))))); (focus (first | trivial | (simp (maxDischargeDepth := 9) -implicitDefEqProofs -dsimp only [go_sem, seval, *]; done)))) | ((with_reducible apply id_one1); (focus (intro tS hS; ((first | with_reducible refine eq_checked g h _ hg hh | with_reducible refine sl_cloneGate g.ands _ hal | with_reducible refine ACalls.flA (eq_checked g h _ hg hh) ?_ | with_reducible refine ACalls.flA (sl_cloneGate g.ands _ hal) ?_) <;> (first | (simp (maxDischargeDepth := 9) -implicitDefEqProofs -dsimp only [go_sem, seval, *]; done) | omega | ((with_reducible refine Sub.get hS ?_); simp (maxDischargeDepth := 9) -implicitDefEqProofs -dsimp only [go_sem, seval, *]; done))))); (focus (first | trivial | (simp (maxDischargeDepth := 9) -implicitDefEqProofs -dsimp only [go_sem, seval, *]; done)))))
  rename_i o4 h4 o5 h5 oL hL
  obtain ⟨oT, eT⟩ : ∃ x, x = oF := ⟨oF, rfl⟩
  subst eT
  obtain ⟨N, hN⟩ : ∃ N : Nat, (N : Int) = 1 + g.ins + g.flops.length := ⟨(1 + g.ins + g.flops.length).toNat, by omega⟩
  have hN' : 1 + g.ins + g.flops.length = (N : Int) := hN.symm
  have hto : (to0 g).length = N := by simp [to0]; omega
  have htg : ∀ i, i < N → (to0 g).getD i 0 = 2 * (i : Int) := fun i hi => by
    have hi2 : i < (1 + g.ins + g.flops.length).toNat := by omega
    simp [to0, List.getD_eq_getElem?_getD, hi2]
  have hN10 : N ≤ 10 := by omega
  clear hN
  have hr : List.replicate g.flops.length (AV.agg [.int .i64 0, .bool false]) = (List.replicate g.flops.length (⟨0, false⟩ : Flop)).map encFlop := by rw [List.map_replicate]
  refine loop_rule (fun i : Nat => [(62, some (.int .i64 i)), (61, some (.int .i64 N)), (6, some (.ptr oT 0)), (5, some (.ptr o5 0)), (4, some (.ptr o4 0)), (3, some (.cptr (aigL h))), (2, some (.cptr (aigL g)))])
    (fun i => upd (upd (upd (upd σ oV1 (.grow 1 i)) o4 (.cells (aigL (m0 g)))) o5 (.cells [.int .i64 0])) oT (.cells [.slice (((to0 g).take i).map encInt) (.own oV1)])) (fun i => i ≤ N) (fun i => N - i) 0 ?_ ?_
  · (repeat' (first | simp (maxDischargeDepth := 9) -implicitDefEqProofs -dsimp only [go_sem, seval, m0, hr, *] | simp (disch := omega) only [wrap64])) <;> (repeat' refine And.intro ?_ ?_) <;> (first | omega | rfl | assumption | skip)
  · intro i hi
    by_cases hlt : i < N
    · have hlt' : (i : Int) < N := by omega
      have hs : (to0 g).take (i + 1) = (to0 g).take i ++ [2 * (i : Int)] := by
        have hLi : i < (to0 g).length := by omega
        rw [List.take_add_one, List.getElem?_eq_getElem hLi, ← htg i hlt]
        simp [List.getD_eq_getElem?_getD, hLi]
      have hlen : ((to0 g).take i).length = i := by simp; omega
      have hsh := shl1 (i : Int) (by omega) (by omega)
      clear htg hr
      repeat' (first | simp (maxDischargeDepth := 9) -implicitDefEqProofs -dsimp only [go_sem, seval, *] | simp (disch := omega) only [wrap64] | ((with_reducible refine Zv ?_ ?_); focus (first | omega | exact rfl)) | ((with_reducible refine Zu ?_ ?_); focus omega) | ((with_reducible refine Zt (fun oF hoF hnF hnF' => ?_)); clear hnF hnF'; (try simp only [Zw, ne_eq] at hoF)))
      refine loop_next _ _ _ _ (i + 1) ?_; (repeat' (first | simp (maxDischargeDepth := 9) -implicitDefEqProofs -dsimp only [go_sem, seval,  List.map_append, List.map_cons, List.map_nil, *] | simp (disch := omega) only [wrap64])) <;> (repeat' refine And.intro ?_ ?_) <;> (first | omega | rfl | assumption | skip)
    · have e : i = N := by omega
      subst e
      have hlt' : ¬ (i : Int) < i := by omega
      have e0 : (to0 g).take i = to0 g := List.take_of_length_le (by omega)
      have z0 : mAt g h 0 = (m0 g, to0 g) := by simp [mAt]
      clear htg hr hlt
      repeat' (first | simp (maxDischargeDepth := 9) -implicitDefEqProofs -dsimp only [go_sem, seval, *] | simp (disch := omega) only [wrap64] | ((with_reducible refine Zv ?_ ?_); focus (first | omega | exact rfl)) | ((with_reducible refine Zu ?_ ?_); focus omega) | ((with_reducible refine Zt (fun oF hoF hnF hnF' => ?_)); clear hnF hnF'; (try simp only [Zw, ne_eq] at hoF)))
      refine loop_rule (fun j : Nat => [(76, some (.int .i64 j)), (75, some (.int .i64 h.ands.length)), (74, some (.slice (h.ands.map encGate) .no)), (6, some (.ptr oT 0)), (9, some (.fn 50 [] [.ptr o5 0, .ptr o4 0])), (8, some (.fn 49 [] [.ptr oT 0])), (5, some (.ptr o5 0)), (4, some (.ptr o4 0)), (3, some (.cptr (aigL h))), (2, some (.cptr (aigL g)))])
        (fun j => upd (upd (upd (upd σ oV1 (.grow 1 (i + j))) o4 (.cells (aigL (mAt g h j).1))) o5 (.cells [.int .i64 0])) oT (.cells [.slice ((mAt g h j).2.map encInt) (.own oV1)])) (fun j => j ≤ h.ands.length) (fun j => h.ands.length - j) 0 ?_ ?_
      · have z1 : (mAt g h 0).1 = m0 g := by rw [z0]
        have z2 : (mAt g h 0).2 = to0 g := by rw [z0]
        (repeat' (first | simp (maxDischargeDepth := 9) -implicitDefEqProofs -dsimp only [go_sem, seval, z1, z2, *] | simp (disch := omega) only [wrap64])) <;> (repeat' refine And.intro ?_ ?_) <;> (first | omega | rfl | assumption | skip)
      · intro j hj
        by_cases hlt : j < h.ands.length
        · have hlj : (j : Int) < h.ands.length := by omega
          obtain ⟨y, s1, s2, s3, s4, s5, s6, s7, s8⟩ := m_step t hlt
          have hl2 := (mAt_ok t (zs t.gg) hj).2
          rw [zeros] at hl2
          have hl3 : (mAt g h j).2.length = i + j := by omega
          obtain ⟨⟨m, to⟩, hb'⟩ : ∃ s, mAt g h j = s := ⟨_, rfl⟩
          obtain ⟨⟨m', to'⟩, hc⟩ : ∃ s, mAt g h (j + 1) = s := ⟨_, rfl⟩
          rw [hb'] at s1 s2 s3 s4 s5 s6 s7 s8 hl3 ⊢
          rw [hc] at s6 s7
          simp only at s1 s2 s3 s4 s5 s6 s7 s8 hl3
          subst s7
          have hA := fun τ => A.aig_And m _ _ τ s3 s4 s5
          rw [s6] at hA
          have f1 := fun τ hτ => eq_stands oT to (.own oV1) h.ands[j].1 τ hτ s1
          have f2 := fun τ hτ => eq_stands oT to (.own oV1) h.ands[j].2 τ hτ s2
          obtain ⟨p, hp⟩ : ∃ p, moveL to h.ands[j].1 = p := ⟨_, rfl⟩
          obtain ⟨q, hq⟩ : ∃ q, moveL to h.ands[j].2 = q := ⟨_, rfl⟩
          rw [hp] at hA f1
          rw [hq] at hA f2
          clear hb' hp hq s1 s2 s3 s4 s5 s6 hl2 z0 e0
          repeat' (first | simp (maxDischargeDepth := 9) -implicitDefEqProofs -dsimp only [go_sem, seval, *] | simp (disch := omega) only [wrap64] | ((with_reducible refine Zv ?_ ?_); focus (first | omega | exact rfl)) | ((with_reducible refine Zu ?_ ?_); focus omega) | ((with_reducible refine Zt (fun oF hoF hnF hnF' => ?_)); clear hnF hnF'; (try simp only [Zw, ne_eq] at hoF)) | ((with_reducible apply ACalls.one1); (focus ((first | with_reducible refine f1 _ ?_ | with_reducible refine f2 _ ?_ | with_reducible refine eq_mput 51 o5 o4 m m' p q y _ ?_ ?_ (hA _) | with_reducible refine ACalls.flA (f1 _ ?_) ?_ | with_reducible refine ACalls.flA (f2 _ ?_) ?_ | with_reducible refine ACalls.flA (eq_mput 51 o5 o4 m m' p q y _ ?_ ?_ (hA _)) ?_) <;> (first | (simp (maxDischargeDepth := 9) -implicitDefEqProofs -dsimp only [go_sem, seval, *]; done) | omega))); (focus (first | trivial | with_reducible exact rfl | (simp (maxDischargeDepth := 9) -implicitDefEqProofs -dsimp only [go_sem, seval]; done)))) | ((with_reducible apply id_one0); (focus (intro tS hS; ((first | with_reducible refine f1 _ ?_ | with_reducible refine f2 _ ?_ | with_reducible refine eq_mput 51 o5 o4 m m' p q y _ ?_ ?_ (hA _) | with_reducible refine ACalls.flA (f1 _ ?_) ?_ | with_reducible refine ACalls.flA (f2 _ ?_) ?_ | with_reducible refine ACalls.flA (eq_mput 51 o5 o4 m m' p q y _ ?_ ?_ (hA _)) ?_) <;> (first | (simp (maxDischargeDepth := 9) -implicitDefEqProofs -dsimp only [go_sem, seval, *]; done) | omega | ((with_reducible refine Sub.get hS ?_); simp (maxDischargeDepth := 9) -implicitDefEqProofs -dsimp only [go_sem, seval, *]; done))))); (focus (first | trivial | (simp (maxDischargeDepth := 9) -implicitDefEqProofs -dsimp only [go_sem, seval, *]; done)))) | ((with_reducible apply id_one1); (focus (intro tS hS; ((first | with_reducible refine f1 _ ?_ | with_reducible refine f2 _ ?_ | with_reducible refine eq_mput 51 o5 o4 m m' p q y _ ?_ ?_ (hA _) | with_reducible refine ACalls.flA (f1 _ ?_) ?_ | with_reducible refine ACalls.flA (f2 _ ?_) ?_ | with_reducible refine ACalls.flA (eq_mput 51 o5 o4 m m' p q y _ ?_ ?_ (hA _)) ?_) <;> (first | (simp (maxDischargeDepth := 9) -implicitDefEqProofs -dsimp only [go_sem, seval, *]; done) | omega | ((with_reducible refine Sub.get hS ?_); simp (maxDischargeDepth := 9) -implicitDefEqProofs -dsimp only [go_sem, seval, *]; done))))); (focus (first | trivial | (simp (maxDischargeDepth := 9) -implicitDefEqProofs -dsimp only [go_sem, seval, *]; done)))))
          refine loop_next _ _ _ _ (j + 1) ?_; (repeat' (first | simp (maxDischargeDepth := 9) -implicitDefEqProofs -dsimp only [go_sem, seval,  List.map_append, List.map_cons, List.map_nil, *] | simp (disch := omega) only [wrap64])) <;> (repeat' refine And.intro ?_ ?_) <;> (first | omega | rfl | assumption | skip)
        · have e : j = h.ands.length := by omega
          subst e
          have hlj : ¬ (h.ands.length : Int) < h.ands.length := by omega
          rw [m_all]
          obtain ⟨bl, bn⟩ := body_lits t
          have dst := fun k hk => d_step t (i := k) hk
          have hpl := t.pairs
          have hfl1 := hg.flops
          have hfl2 := hh.flops
          have hou1 := t.gg.outs
          have hou2 := t.hh.outs
          have hcat := fun τ => sl_concat2 g.outs (g.flops.map (·.next)) τ (by rw [List.length_map]; omega)
          obtain ⟨mine, hmine⟩ : ∃ l, g.outs ++ g.flops.map (·.next) = l := ⟨_, rfl⟩
          have hml : mine.length = (pairsM g h).length := by rw [← hmine, hpl]; simp
          have hth : ((lits h).map (moveL (bodyM g h).2)).length = (pairsM g h).length := by
            rw [hpl, List.length_map, lits_len]; omega
          have hpm : ∀ k (hk : k < (pairsM g h).length), (pairsM g h)[k] = (mine[k], ((lits h).map (moveL (bodyM g h).2))[k]) := fun k hk => by
            subst hmine
            simp [pairsM, lits]
          rw [hmine] at hcat
          have hE := fun τ hτ => each0 oT 49 [] [.ptr oT 0] h.outs (h.flops.map (·.next)) ((lits h).map (moveL (bodyM g h).2)) (.cells [.slice ((bodyM g h).2.map encInt) (.own oV1)]) τ hτ (by simp [lits]) (by rw [List.length_map]; omega) (fun k hk τ hτ => by
            have hk' : k < (lits h).length := hk
            have hs := eq_stands oT (bodyM g h).2 (.own oV1) (lits h)[k] τ hτ (bl _ (List.getElem_mem hk'))
            have e : ((lits h).map (moveL (bodyM g h).2)).getD k 0 = moveL (bodyM g h).2 (lits h)[k] := by
              simp [List.getD_eq_getElem?_getD, hk']
            rw [e]; exact hs)
          have hd0 : dAt g h 0 = ((bodyM g h).1, 0) := rfl
          have hda := @d_all g h
          obtain ⟨th, hthd⟩ : ∃ l, (lits h).map (moveL (bodyM g h).2) = l := ⟨_, rfl⟩
          rw [hthd] at hE hth
          simp only [hthd] at hpm
          obtain ⟨K, hK⟩ : ∃ K, (pairsM g h).length = K := ⟨_, rfl⟩
          have hK' : K ≤ 40 := by omega
          have hml1 : (mine.length ≤ K ∧ K ≤ mine.length) ∧ (th.length ≤ K ∧ K ≤ th.length) := by omega
          have hml2 : (mine.length : Int) = K := by omega
          obtain ⟨hml1, hml3⟩ := hml1
          clear bl hlt z0 e0 hj hal hpl
          repeat' (first | simp (maxDischargeDepth := 9) -implicitDefEqProofs -dsimp only [go_sem, seval, *] | simp (disch := omega) only [wrap64] | ((with_reducible refine Zv ?_ ?_); focus (first | omega | exact rfl)) | ((with_reducible refine Zu ?_ ?_); focus omega) | ((with_reducible refine Zt (fun oF hoF hnF hnF' => ?_)); clear hnF hnF'; (try simp only [Zw, ne_eq] at hoF)) | ((with_reducible apply ACalls.one1); (focus ((first | with_reducible refine eq_nexts g _ hfl1 | with_reducible refine eq_nexts h _ hfl2 | with_reducible refine hcat _ | with_reducible refine hE _ ?_ | with_reducible refine ACalls.flA (eq_nexts g _ hfl1) ?_ | with_reducible refine ACalls.flA (eq_nexts h _ hfl2) ?_ | with_reducible refine ACalls.flA (hcat _) ?_ | with_reducible refine ACalls.flA (hE _ ?_) ?_) <;> (first | (simp (maxDischargeDepth := 9) -implicitDefEqProofs -dsimp only [go_sem, seval, *]; done) | omega))); (focus (first | trivial | with_reducible exact rfl | (simp (maxDischargeDepth := 9) -implicitDefEqProofs -dsimp only [go_sem, seval]; done)))) | ((with_reducible apply id_one0); (focus (intro tS hS; ((first | with_reducible refine eq_nexts g _ hfl1 | with_reducible refine eq_nexts h _ hfl2 | with_reducible refine hcat _ | with_reducible refine hE _ ?_ | with_reducible refine ACalls.flA (eq_nexts g _ hfl1) ?_ | with_reducible refine ACalls.flA (eq_nexts h _ hfl2) ?_ | with_reducible refine ACalls.flA (hcat _) ?_ | with_reducible refine ACalls.flA (hE _ ?_) ?_) <;> (first | (simp (maxDischargeDepth := 9) -implicitDefEqProofs -dsimp only [go_sem, seval, *]; done) | omega | ((with_reducible refine Sub.get hS ?_); simp (maxDischargeDepth := 9) -implicitDefEqProofs -dsimp only [go_sem, seval, *]; done))))); (focus (first | trivial | (simp (maxDischargeDepth := 9) -implicitDefEqProofs -dsimp only [go_sem, seval, *]; done)))) | ((with_reducible apply id_one1); (focus (intro tS hS; ((first | with_reducible refine eq_nexts g _ hfl1 | with_reducible refine eq_nexts h _ hfl2 | with_reducible refine hcat _ | with_reducible refine hE _ ?_ | with_reducible refine ACalls.flA (eq_nexts g _ hfl1) ?_ | with_reducible refine ACalls.flA (eq_nexts h _ hfl2) ?_ | with_reducible refine ACalls.flA (hcat _) ?_ | with_reducible refine ACalls.flA (hE _ ?_) ?_) <;> (first | (simp (maxDischargeDepth := 9) -implicitDefEqProofs -dsimp only [go_sem, seval, *]; done) | omega | ((with_reducible refine Sub.get hS ?_); simp (maxDischargeDepth := 9) -implicitDefEqProofs -dsimp only [go_sem, seval, *]; done))))); (focus (first | trivial | (simp (maxDischargeDepth := 9) -implicitDefEqProofs -dsimp only [go_sem, seval, *]; done)))))
          have z1 : (dAt g h 0).1 = (bodyM g h).1 := rfl
          have z2 : (dAt g h 0).2 = 0 := rfl
          clear hcat hE
          refine loop_rule (fun k : Nat => [(109, some (.int .i64 k)), (108, some (.int .i64 K)), (107, some (.slice (mine.map encInt) .no)), (9, some (.fn 50 [] [.ptr o5 0, .ptr o4 0])), (14, some (.int .i64 (dAt g h k).2)), (13, some (.slice (th.map encInt) .no)), (5, some (.ptr o5 0)), (4, some (.ptr o4 0))])
            (fun k => upd (upd σ o4 (.cells (aigL (dAt g h k).1))) o5 (.cells [.int .i64 0])) (fun k => k ≤ K) (fun k => K - k) 0 ?_ ?_
          · (repeat' (first | simp (maxDischargeDepth := 9) -implicitDefEqProofs -dsimp only [go_sem, seval, z1, z2, *] | simp (disch := omega) only [wrap64])) <;> (repeat' refine And.intro ?_ ?_) <;> (first | omega | rfl | assumption | skip)
          · intro k hk
            by_cases hlt : k < K
            · have hlk : (k : Int) < K := by omega
              obtain ⟨m, d, s1, s2, s3, s4, s5, s6, s7, s8⟩ := dst k (by omega)
              rw [hpm k (by omega)] at s2 s3 s4
              simp only at s2 s3 s4
              have hlm : k < mine.length := by omega
              have hlh : k < th.length := by omega
              obtain ⟨⟨b, l⟩, hb'⟩ : ∃ s, dAt g h k = s := ⟨_, rfl⟩
              obtain ⟨⟨m', l'⟩, hc⟩ : ∃ s, dAt g h (k + 1) = s := ⟨_, rfl⟩
              rw [hb'] at s1 s4 s6 s8 ⊢
              rw [hc] at s8
              simp only at s1 s4 s6 s8
              have hX := fun τ => A.aig_Xor b _ _ τ s1 s2 s3
              have hO := fun τ => A.aig_Or m _ _ τ s5 s6 s7
              rw [s4] at hX
              rw [s8] at hO
              obtain ⟨u, hu⟩ : ∃ u, mine[k] = u := ⟨_, rfl⟩
              obtain ⟨v, hv⟩ : ∃ v, th[k] = v := ⟨_, rfl⟩
              rw [hu, hv] at hX
              clear dst hpm s1 s2 s3 s4 s5 s6 s7 s8 hb'
              repeat' (first | simp (maxDischargeDepth := 9) -implicitDefEqProofs -dsimp only [go_sem, seval, *] | simp (disch := omega) only [wrap64] | ((with_reducible refine Zv ?_ ?_); focus (first | omega | exact rfl)) | ((with_reducible refine Zu ?_ ?_); focus omega) | ((with_reducible refine Zt (fun oF hoF hnF hnF' => ?_)); clear hnF hnF'; (try simp only [Zw, ne_eq] at hoF)) | ((with_reducible apply ACalls.one1); (focus ((first | with_reducible refine eq_mput 54 o5 o4 b m u v d _ ?_ ?_ (hX _) | with_reducible refine eq_mput 53 o5 o4 m m' l d l' _ ?_ ?_ (hO _) | with_reducible refine ACalls.flA (eq_mput 54 o5 o4 b m u v d _ ?_ ?_ (hX _)) ?_ | with_reducible refine ACalls.flA (eq_mput 53 o5 o4 m m' l d l' _ ?_ ?_ (hO _)) ?_) <;> (first | (simp (maxDischargeDepth := 9) -implicitDefEqProofs -dsimp only [go_sem, seval, *]; done) | omega))); (focus (first | trivial | with_reducible exact rfl | (simp (maxDischargeDepth := 9) -implicitDefEqProofs -dsimp only [go_sem, seval]; done)))))
              refine loop_next _ _ _ _ (k + 1) ?_; (repeat' (first | simp (maxDischargeDepth := 9) -implicitDefEqProofs -dsimp only [go_sem, seval, *] | simp (disch := omega) only [wrap64])) <;> (repeat' refine And.intro ?_ ?_) <;> (first | omega | rfl | assumption | skip)
            · have e : k = K := by omega
              subst e
              have hlk : ¬ (k : Int) < k := by omega
              rw [hK] at hda
              obtain ⟨⟨b, l⟩, hb'⟩ : ∃ s, dAt g h k = s := ⟨_, rfl⟩
              have hM : miterM g h = { b with outs := [l] } := by unfold miterM; rw [← hda, hb']
              rw [hM]
              clear dst hpm hda
              repeat' (first | simp (maxDischargeDepth := 9) -implicitDefEqProofs -dsimp only [go_sem, seval, *] | simp (disch := omega) only [wrap64] | ((with_reducible refine Zv ?_ ?_); focus (first | omega | exact rfl)) | ((with_reducible refine Zu ?_ ?_); focus omega) | ((with_reducible refine Zt (fun oF hoF hnF hnF' => ?_)); clear hnF hnF'; (try simp only [Zw, ne_eq] at hoF)))
              refine fin_eq ?_
              (repeat' (first | simp (maxDischargeDepth := 9) -implicitDefEqProofs -dsimp only [go_sem, seval, List.map_cons, List.map_nil, *] | simp (disch := omega) only [wrap64])) <;> (repeat' refine And.intro ?_ ?_) <;> (first | omega | rfl | assumption | skip)
end Go.Proofs.Ytjichkelfhcbcaa

namespace Fil.Eqv
open Abs
def firstNe : List (List Bool) → List (List Bool) → Int → Int
  | x :: a, y :: b, i => if x = y then firstNe a b (i + 1) else i
  | _, _, _ => -1
theorem first_at : ∀ (a b : List (List Bool)) (i : Int) (k : Nat) (ha : k < a.length) (hb : k < b.length), (∀ j (h : j < k), a[j] = b[j]) → a[k] ≠ b[k] → firstNe a b i = i + k
  | x :: a, y :: b, i, 0, _, _, _, hn => by
    simp only [List.getElem_cons_zero] at hn
    simp [firstNe, hn]
  | x :: a, y :: b, i, k + 1, ha, hb, he, hn => by
    have h0 : x = y := he 0 (by omega)
    simp only [firstNe, if_pos h0]
    rw [first_at a b (i + 1) k (by simpa using ha) (by simpa using hb) (fun j hj => by simpa using he (j + 1) (by omega)) (by simpa using hn)]
    omega
theorem first_no : ∀ (a b : List (List Bool)) (i : Int) (hl : a.length ≤ b.length), (∀ j (h : j < a.length), a[j] = b[j]) → firstNe a b i = -1
  | [], b, i, _, _ => by cases b <;> rfl
  | x :: a, y :: b, i, hl, he => by
    have h0 : x = y := he 0 (by simp)
    simp only [firstNe, if_pos h0]
    exact first_no a b (i + 1) (by simpa using hl) fun j hj => by
      have := he (j + 1) (by simp only [List.length_cons]; omega)
      simpa only [List.getElem_cons_succ] using this
def traceS (g h : Aig) (ins : List (List Bool)) : Int × Int := if (g.Run ins).2 ≠ 0 then (0, (g.Run ins).2) else (firstNe (g.Run ins).1 (h.Run ins).1 0, 0)
end Fil.Eqv

namespace Go.Proofs.Ytjichkelfhcbcaa
open Abs Fil Fil.Eqv
open Bd (D encB encF)
theorem eq_Same_arg (g h : Aig) (hg : Wf g) (hh : Wf h) (he : chk2 g h = 0) (h0 : ¬ (g.ins = h.ins ∧ g.flops.length = h.flops.length ∧ g.outs.length = h.outs.length)) (σ : Sig) :
    ACalls Try.prog 23 [encAig g, encAig h] σ (fun r σ' => r = .ret (.tup [.bool false, .slice [] .no, .slice [] .no, .int .i64 1]) ∧ σ' = σ) := by
  refine calls_x mixed Try.func23 b23 n23 rfl q23 (by simp) ?_; unfold c23 r23
  have hb : ((1 : Int) != 0) = true := by decide
  repeat' (first | simp (maxDischargeDepth := 9) -implicitDefEqProofs -dsimp only [go_sem, seval, List.map_nil, *] | ((with_reducible refine Zt (fun oF hoF hnF hnF' => ?_)); clear hnF hnF'; (try simp only [Zw, ne_eq] at hoF)) | ((with_reducible apply ACalls.one1); (focus ((first | with_reducible refine eq_Miter_arg g h hg hh he h0 _) <;> (first | (simp (maxDischargeDepth := 9) -implicitDefEqProofs -dsimp only [go_sem, seval, *]; done) | omega))); (focus (first | trivial | with_reducible exact rfl | (simp (maxDischargeDepth := 9) -implicitDefEqProofs -dsimp only [go_sem, seval]; done)))))
  refine fin_eq ?_
  (repeat' (first | simp (maxDischargeDepth := 9) -implicitDefEqProofs -dsimp only [go_sem, seval, *])) <;> (repeat' refine And.intro ?_ ?_) <;> (first | omega | rfl | assumption | skip)
theorem eq_Same (g h : Aig) (t : Two g h) (σ : Sig) :
    ACalls Try.prog 23 [encAig g, encAig h] σ (fun r σ' => r = .ret (.tup [.bool (sameS g h).1, .slice ((sameS g h).2.1.map encBool) .no, .slice ((sameS g h).2.2.map encBool) .no, .int .i64 0]) ∧ σ' = σ) := by
  refine calls_x mixed Try.func23 b23 n23 rfl q23 (by simp) ?_; unfold c23 r23
  have ez : ((0 : Int) != 0) = false := by decide
  have hm := (miter_ok t).1
  have hfl : (forksS (miterM g h)).2.length = 1 + g.flops.length := by
    rw [forks_len, (miter_ok t).2.2.2.1, (miter_ok t).2.2.1]; simp
  have hlo := t.gg.lo
  have h8 := t.gg.eight
  have hn := node_ok t (w := List.replicate (g.ins + g.flops.length).toNat false) (by rw [zeros]; omega)
  have hroom := (hn.1.room (by omega)).2.2.2
  have hM := fun τ => eq_Miter g h t τ
  have hF := fun τ => eq_Forks (miterM g h) hm τ
  obtain ⟨l, hl⟩ : ∃ l, (forksS (miterM g h)).2 = l := ⟨_, rfl⟩
  obtain ⟨b, hb⟩ : ∃ b, (forksS (miterM g h)).1 = b := ⟨_, rfl⟩
  have hnode : nodeS g h = (b, l.getD 0 0) := by unfold nodeS; rw [hl, hb]
  rw [hl] at hfl
  rw [hl, hb] at hF
  rw [hnode] at hroom
  have hl0 : 0 < l.length := by omega
  have hg0 : l[0] = l.getD 0 0 := by simp [List.getD_eq_getElem?_getD, hl0]
  have hll : l.length ≤ 10 := by omega
  obtain ⟨x, hx⟩ : ∃ x, l.getD 0 0 = x := ⟨_, rfl⟩
  rw [hx] at hnode hg0
  have hO := fun τ => B.bdd_One b x τ hroom
  by_cases hy : x = 0
  · have hs : sameS g h = (true, [], []) := by unfold sameS; rw [hnode, if_pos hy]
    have h1 := (same_yes t (by rw [hnode]; exact hy)).1
    rw [hnode] at h1
    simp only at h1
    rw [h1] at hO
    rw [hs]
    clear h1 hs hn hm hl hb hnode hx hfl
    repeat' (first | simp (maxDischargeDepth := 9) -implicitDefEqProofs -dsimp only [go_sem, seval, List.map_nil, *] | ((with_reducible refine Zv ?_ ?_); focus (first | omega | exact rfl)) | ((with_reducible refine Zu ?_ ?_); focus omega) | ((with_reducible refine Zt (fun oF hoF hnF hnF' => ?_)); clear hnF hnF'; (try simp only [Zw, ne_eq] at hoF)) | ((with_reducible apply ACalls.one1); (focus ((first | with_reducible refine hM _ | with_reducible refine hF _ | with_reducible refine hO _ | with_reducible refine ACalls.flA (hM _) ?_ | with_reducible refine ACalls.flA (hF _) ?_ | with_reducible refine ACalls.flA (hO _) ?_) <;> (first | (simp (maxDischargeDepth := 9) -implicitDefEqProofs -dsimp only [go_sem, seval, *]; done) | omega))); (focus (first | trivial | with_reducible exact rfl | (simp (maxDischargeDepth := 9) -implicitDefEqProofs -dsimp only [go_sem, seval]; done)))) | ((with_reducible apply id_one0); (focus (intro tS hS; ((first | with_reducible refine hM _ | with_reducible refine hF _ | with_reducible refine hO _ | with_reducible refine ACalls.flA (hM _) ?_ | with_reducible refine ACalls.flA (hF _) ?_ | with_reducible refine ACalls.flA (hO _) ?_) <;> (first | (simp (maxDischargeDepth := 9) -implicitDefEqProofs -dsimp only [go_sem, seval, *]; done) | omega | ((with_reducible refine Sub.get hS ?_); simp (maxDischargeDepth := 9) -implicitDefEqProofs -dsimp only [go_sem, seval, *]; done))))); (focus (first | trivial | (simp (maxDischargeDepth := 9) -implicitDefEqProofs -dsimp only [go_sem, seval, *]; done)))))
    refine fin_eq ?_
    (repeat' (first | simp (maxDischargeDepth := 9) -implicitDefEqProofs -dsimp only [go_sem, seval, *])) <;> (repeat' refine And.intro ?_ ?_) <;> (first | omega | rfl | assumption | skip)
  · obtain ⟨w, h1, h2, _⟩ := same_no t (by rw [hnode]; exact hy)
    have hs : sameS g h = (false, w.take g.ins.toNat, w.drop g.ins.toNat) := by
      unfold sameS
      rw [hnode, if_neg hy]
      rw [hnode] at h1
      simp only at h1 ⊢
      rw [h1]
    rw [hnode] at h1
    simp only at h1
    rw [h1] at hO
    rw [hs]
    have hw : g.ins ≤ w.length := by omega
    have m1 : List.take g.ins.toNat (w.map encBool) = (w.take g.ins.toNat).map encBool := List.map_take.symm
    have m2 : List.drop g.ins.toNat (w.map encBool) = (w.drop g.ins.toNat).map encBool := List.map_drop.symm
    clear h1 hs hn hm hl hb hnode hx hfl
    repeat' (first | simp (maxDischargeDepth := 9) -implicitDefEqProofs -dsimp only [go_sem, seval, *] | ((with_reducible refine Zv ?_ ?_); focus (first | omega | exact rfl)) | ((with_reducible refine Zu ?_ ?_); focus omega) | ((with_reducible refine Zt (fun oF hoF hnF hnF' => ?_)); clear hnF hnF'; (try simp only [Zw, ne_eq] at hoF)) | ((with_reducible apply ACalls.one1); (focus ((first | with_reducible refine hM _ | with_reducible refine hF _ | with_reducible refine hO _ | with_reducible refine ACalls.flA (hM _) ?_ | with_reducible refine ACalls.flA (hF _) ?_ | with_reducible refine ACalls.flA (hO _) ?_) <;> (first | (simp (maxDischargeDepth := 9) -implicitDefEqProofs -dsimp only [go_sem, seval, *]; done) | omega))); (focus (first | trivial | with_reducible exact rfl | (simp (maxDischargeDepth := 9) -implicitDefEqProofs -dsimp only [go_sem, seval]; done)))) | ((with_reducible apply id_one0); (focus (intro tS hS; ((first | with_reducible refine hM _ | with_reducible refine hF _ | with_reducible refine hO _ | with_reducible refine ACalls.flA (hM _) ?_ | with_reducible refine ACalls.flA (hF _) ?_ | with_reducible refine ACalls.flA (hO _) ?_) <;> (first | (simp (maxDischargeDepth := 9) -implicitDefEqProofs -dsimp only [go_sem, seval, *]; done) | omega | ((with_reducible refine Sub.get hS ?_); simp (maxDischargeDepth := 9) -implicitDefEqProofs -dsimp only [go_sem, seval, *]; done))))); (focus (first | trivial | (simp (maxDischargeDepth := 9) -implicitDefEqProofs -dsimp only [go_sem, seval, *]; done)))))
    refine fin_eq ?_
    (repeat' (first | simp (maxDischargeDepth := 9) -implicitDefEqProofs -dsimp only [go_sem, seval, *])) <;> (repeat' refine And.intro ?_ ?_) <;> (first | omega | rfl | assumption | skip)
theorem sl_equalBool (a b : List Bool) (σ : Sig) (ha : a.length ≤ 1000000000) :
    ACalls Try.prog 60 [.slice (a.map encBool) .no, .slice (b.map encBool) .no] σ (fun r σ' => r = .ret (.bool (decide (a = b))) ∧ σ' = σ) := by
  refine calls_x mixed Try.func60 b60 n60 rfl q60 (by simp) ?_; unfold c60 r60
  by_cases hl : a.length = b.length
  · have hlb : ((a.length : Int) != b.length) = false := by simp [hl]
    have hl' := And.intro (Nat.le_of_eq hl) (Nat.le_of_eq hl.symm)
    clear hl
    repeat' (first | simp (maxDischargeDepth := 9) -implicitDefEqProofs -dsimp only [go_sem, seval, *] | simp (disch := omega) only [wrap64] | ((with_reducible refine Zu ?_ ?_); focus omega))
    refine loop_rule (fun i : Nat => [(13, some (.int .i64 i)), (12, some (.int .i64 a.length)), (0, some (.slice (a.map encBool) .no)), (1, some (.slice (b.map encBool) .no))]) (fun _ => σ) (fun i => i ≤ a.length ∧ ∀ j, (hj : j < a.length) → j < i → a[j] = b[j]) (fun i => a.length - i) 0 ?_ ?_
    · (repeat' (first | simp (maxDischargeDepth := 9) -implicitDefEqProofs -dsimp only [go_sem, seval, *] | simp (disch := omega) only [wrap64])) <;> (repeat' refine And.intro ?_ ?_) <;> (first | omega | rfl | assumption | skip)
    · rintro i ⟨hi, hok⟩
      by_cases hlt : i < a.length
      · have hlt' : i < b.length := by omega
        obtain ⟨x, hx⟩ : ∃ x, a[i] = x := ⟨_, rfl⟩
        obtain ⟨y, hy⟩ : ∃ y, b[i] = y := ⟨_, rfl⟩
        by_cases he : x = y
        · subst he
          have hok' : ∀ j : Nat, (hj : j < a.length) → j < i + 1 → a[j] = b[j] := fun j hj hji => by
            rcases Nat.lt_or_ge j i with c | c
            · exact hok j hj c
            · obtain rfl : j = i := by omega
              rw [hx, hy]
          clear hok
          repeat' (first | simp (maxDischargeDepth := 9) -implicitDefEqProofs -dsimp only [go_sem, seval, *] | simp (disch := omega) only [wrap64] | ((with_reducible refine Zu ?_ ?_); focus omega))
          refine loop_next _ _ _ _ (i + 1) ⟨?_, ?_, ⟨by omega, hok'⟩, by omega⟩
          · (repeat' (first | simp (maxDischargeDepth := 9) -implicitDefEqProofs -dsimp only [go_sem, seval, *] | simp (disch := omega) only [wrap64])) <;> (repeat' refine And.intro ?_ ?_) <;> (first | omega | rfl | assumption | skip)
          · (repeat' (first | simp (maxDischargeDepth := 9) -implicitDefEqProofs -dsimp only [go_sem, seval, *] | simp (disch := omega) only [wrap64])) <;> (repeat' refine And.intro ?_ ?_) <;> (first | omega | rfl | assumption | skip)
        · have hv : decide (a = b) = false := by simp; intro e; exact he (by rw [← hx, ← hy]; simp only [e])
          have hb : (x == y) = false := by simpa using he
          rw [hv]
          clear hok
          repeat' (first | simp (maxDischargeDepth := 9) -implicitDefEqProofs -dsimp only [go_sem, seval, *] | simp (disch := omega) only [wrap64] | ((with_reducible refine Zu ?_ ?_); focus omega))
          refine fin_eq ?_
          (repeat' (first | simp (maxDischargeDepth := 9) -implicitDefEqProofs -dsimp only [go_sem, seval, *] | simp (disch := omega) only [wrap64])) <;> (repeat' refine And.intro ?_ ?_) <;> (first | omega | rfl | assumption | skip)
      · have hv : decide (a = b) = true := by simp; exact List.ext_getElem (by omega) fun j hj _ => hok j hj (by omega)
        rw [hv]
        clear hok
        repeat' (first | simp (maxDischargeDepth := 9) -implicitDefEqProofs -dsimp only [go_sem, seval, *] | simp (disch := omega) only [wrap64] | ((with_reducible refine Zu ?_ ?_); focus omega))
        refine fin_eq ?_
        (repeat' (first | simp (maxDischargeDepth := 9) -implicitDefEqProofs -dsimp only [go_sem, seval, *] | simp (disch := omega) only [wrap64])) <;> (repeat' refine And.intro ?_ ?_) <;> (first | omega | rfl | assumption | skip)
  · have hb : ((a.length : Int) != b.length) = true := by simp; omega
    have hv : decide (a = b) = false := by simp; intro e; exact hl (by rw [e])
    rw [hv]
    repeat' (first | simp (maxDischargeDepth := 9) -implicitDefEqProofs -dsimp only [go_sem, seval, *] | simp (disch := omega) only [wrap64] | ((with_reducible refine Zu ?_ ?_); focus omega))
    refine fin_eq ?_
    (repeat' (first | simp (maxDischargeDepth := 9) -implicitDefEqProofs -dsimp only [go_sem, seval, *] | simp (disch := omega) only [wrap64])) <;> (repeat' refine And.intro ?_ ?_) <;> (first | omega | rfl | assumption | skip)
theorem eq_Trace (g h : Aig) (ins : List (List Bool)) (σ : Sig) (hg : Wf g) (hh : Wf h) (hi : ins.length ≤ 1000000) (he : chk2 g h = 0) (h1 : g.ins = h.ins) (h2 : g.outs.length = h.outs.length)
    (hlen : (g.Run ins).2 = 0 → (g.Run ins).1.length ≤ (h.Run ins).1.length) (hal : (g.Run ins).1.length ≤ 1000000) (har : ∀ x ∈ (g.Run ins).1, x.length ≤ 1000000000) :
    ACalls Try.prog 20 [encAig g, encAig h, .slice (ins.map (encRow encBool)) .no] σ (fun r σ' => r = .ret (.tup [.int .i64 (traceS g h ins).1, .int .i64 (traceS g h ins).2]) ∧ σ' = σ) := by
  refine calls_x mixed Try.func20 b20 n20 rfl q20 (by simp) ?_; unfold c20 r20
  have ez : ((0 : Int) != 0) = false := by decide
  have hb1 : (g.ins != h.ins) = false := by simpa using h1
  have hb2 : ((g.outs.length : Int) != h.outs.length) = false := by simp [h2]
  have c1 := fun τ => A.aig_Run g ins τ hg hi
  have c2 := fun τ => A.aig_Run h ins τ hh hi
  obtain ⟨⟨a, e1⟩, ha⟩ : ∃ p, g.Run ins = p := ⟨_, rfl⟩
  obtain ⟨⟨b, e2⟩, hb⟩ : ∃ p, h.Run ins = p := ⟨_, rfl⟩
  have htr : traceS g h ins = if e1 ≠ 0 then (0, e1) else (firstNe a b 0, 0) := by unfold traceS; rw [ha, hb]
  rw [ha] at c1 hlen hal har
  rw [hb] at c2 hlen
  simp only at hlen hal har
  rw [htr]
  clear ha hb htr h1 h2
  by_cases h0 : e1 = 0
  · subst h0
    have hab := hlen rfl
    rw [if_neg (by simp)]
    simp only
    clear hlen
    repeat' (first | simp (maxDischargeDepth := 9) -implicitDefEqProofs -dsimp only [go_sem, seval, *] | simp (disch := omega) only [wrap64] | ((with_reducible refine Zu ?_ ?_); focus omega) | ((with_reducible apply ACalls.one1); (focus ((first | with_reducible refine eq_checked g h _ hg hh | with_reducible refine c1 _ | with_reducible refine c2 _ | with_reducible refine ACalls.flA (eq_checked g h _ hg hh) ?_ | with_reducible refine ACalls.flA (c1 _) ?_ | with_reducible refine ACalls.flA (c2 _) ?_) <;> (first | (simp (maxDischargeDepth := 9) -implicitDefEqProofs -dsimp only [go_sem, seval, *]; done) | omega))); (focus (first | trivial | with_reducible exact rfl | (simp (maxDischargeDepth := 9) -implicitDefEqProofs -dsimp only [go_sem, seval]; done)))))
    refine loop_rule (fun i : Nat => [(53, some (.int .i64 i)), (52, some (.int .i64 a.length)), (51, some (.slice (a.map (encRow encBool)) .no)), (11, some (.slice (b.map (encRow encBool)) .no)), (10, some (.int .i64 0))])
      (fun _ => σ) (fun i => i ≤ a.length ∧ ∀ j, (hj : j < a.length) → (hj' : j < b.length) → j < i → a[j] = b[j]) (fun i => a.length - i) 0 ?_ ?_
    · (repeat' (first | simp (maxDischargeDepth := 9) -implicitDefEqProofs -dsimp only [go_sem, seval, *] | simp (disch := omega) only [wrap64])) <;> (repeat' refine And.intro ?_ ?_) <;> (first | omega | rfl | assumption | skip)
    · rintro i ⟨hi', hok⟩
      by_cases hlt : i < a.length
      · have hlt' : i < b.length := by omega
        have hx : a[i].length ≤ 1000000000 := har _ (List.getElem_mem hlt)
        by_cases hxy : a[i] = b[i]
        · have hok' : ∀ j, (hj : j < a.length) → (hj' : j < b.length) → j < i + 1 → a[j] = b[j] := fun j hj hj' hji => by
            rcases Nat.lt_or_ge j i with c | c
            · exact hok j hj hj' c
            · obtain rfl : j = i := by omega
              exact hxy
          have heq := fun τ => sl_equalBool a[i] b[i] τ hx
          rw [show decide (a[i] = b[i]) = true by simpa using hxy] at heq
          clear hok hxy har
          repeat' (first | simp (maxDischargeDepth := 9) -implicitDefEqProofs -dsimp only [go_sem, seval, List.getElem_map, *] | simp (disch := omega) only [wrap64] | ((with_reducible refine Zu ?_ ?_); focus omega) | ((with_reducible apply ACalls.one1); (focus ((first | with_reducible refine heq _ | with_reducible refine ACalls.flA (heq _) ?_) <;> (first | (simp (maxDischargeDepth := 9) -implicitDefEqProofs -dsimp only [go_sem, seval, *]; done) | omega))); (focus (first | trivial | with_reducible exact rfl | (simp (maxDischargeDepth := 9) -implicitDefEqProofs -dsimp only [go_sem, seval]; done)))))
          refine loop_next _ _ _ _ (i + 1) ⟨?_, ?_, ⟨by omega, hok'⟩, by omega⟩
          · (repeat' (first | simp (maxDischargeDepth := 9) -implicitDefEqProofs -dsimp only [go_sem, seval, *] | simp (disch := omega) only [wrap64])) <;> (repeat' refine And.intro ?_ ?_) <;> (first | omega | rfl | assumption | skip)
          · (repeat' (first | simp (maxDischargeDepth := 9) -implicitDefEqProofs -dsimp only [go_sem, seval, *] | simp (disch := omega) only [wrap64])) <;> (repeat' refine And.intro ?_ ?_) <;> (first | omega | rfl | assumption | skip)
        · have hv : firstNe a b 0 = (i : Int) := by
            have := first_at a b 0 i hlt hlt' (fun j hj => hok j (by omega) (by omega) hj) hxy
            omega
          have heq := fun τ => sl_equalBool a[i] b[i] τ hx
          rw [show decide (a[i] = b[i]) = false by simpa using hxy] at heq
          rw [hv]
          clear hok hxy har
          repeat' (first | simp (maxDischargeDepth := 9) -implicitDefEqProofs -dsimp only [go_sem, seval, List.getElem_map, *] | simp (disch := omega) only [wrap64] | ((with_reducible refine Zu ?_ ?_); focus omega) | ((with_reducible apply ACalls.one1); (focus ((first | with_reducible refine heq _ | with_reducible refine ACalls.flA (heq _) ?_) <;> (first | (simp (maxDischargeDepth := 9) -implicitDefEqProofs -dsimp only [go_sem, seval, *]; done) | omega))); (focus (first | trivial | with_reducible exact rfl | (simp (maxDischargeDepth := 9) -implicitDefEqProofs -dsimp only [go_sem, seval]; done)))))
          refine fin_eq ?_
          (repeat' (first | simp (maxDischargeDepth := 9) -implicitDefEqProofs -dsimp only [go_sem, seval, *] | simp (disch := omega) only [wrap64])) <;> (repeat' refine And.intro ?_ ?_) <;> (first | omega | rfl | assumption | skip)
      · have hv : firstNe a b 0 = -1 := first_no a b 0 hab fun j hj => hok j hj (by omega) (by omega)
        rw [hv]
        clear hok har
        repeat' (first | simp (maxDischargeDepth := 9) -implicitDefEqProofs -dsimp only [go_sem, seval, *] | simp (disch := omega) only [wrap64] | ((with_reducible refine Zu ?_ ?_); focus omega))
        refine fin_eq ?_
        (repeat' (first | simp (maxDischargeDepth := 9) -implicitDefEqProofs -dsimp only [go_sem, seval, *] | simp (disch := omega) only [wrap64])) <;> (repeat' refine And.intro ?_ ?_) <;> (first | omega | rfl | assumption | skip)
  · rw [if_pos h0]
    have hb' : (e1 != 0) = true := by simpa using h0
    simp only
    clear hlen
    repeat' (first | simp (maxDischargeDepth := 9) -implicitDefEqProofs -dsimp only [go_sem, seval, *] | simp (disch := omega) only [wrap64] | ((with_reducible refine Zu ?_ ?_); focus omega) | ((with_reducible apply ACalls.one1); (focus ((first | with_reducible refine eq_checked g h _ hg hh | with_reducible refine c1 _ | with_reducible refine ACalls.flA (eq_checked g h _ hg hh) ?_ | with_reducible refine ACalls.flA (c1 _) ?_) <;> (first | (simp (maxDischargeDepth := 9) -implicitDefEqProofs -dsimp only [go_sem, seval, *]; done) | omega))); (focus (first | trivial | with_reducible exact rfl | (simp (maxDischargeDepth := 9) -implicitDefEqProofs -dsimp only [go_sem, seval]; done)))))
    refine fin_eq ?_
    (repeat' (first | simp (maxDischargeDepth := 9) -implicitDefEqProofs -dsimp only [go_sem, seval, *] | simp (disch := omega) only [wrap64])) <;> (repeat' refine And.intro ?_ ?_) <;> (first | omega | rfl | assumption | skip)
end Go.Proofs.Ytjichkelfhcbcaa

namespace Go.Proofs.Ytjichkelfhcbcaa
open Abs Fil Fil.Eqv
open Bd (D encB encF)
abbrev xAnd : Aig := ⟨2, [], [(2, 4)], [6]⟩
abbrev xAgain : Aig := ⟨2, [], [(4, 2)], [6]⟩
abbrev xOr : Aig := ⟨2, [], [(3, 5)], [7]⟩
abbrev xNone : Aig := ⟨2, [], [], []⟩
theorem x_wf1 : Wf xAnd := ⟨by simp [I64], by simp, by simp, by simp, by simp, by simp [I64], by simp [I64]⟩
theorem x_wf2 : Wf xAgain := ⟨by simp [I64], by simp, by simp, by simp, by simp, by simp [I64], by simp [I64]⟩
theorem x_wf3 : Wf xOr := ⟨by simp [I64], by simp, by simp, by simp, by simp, by simp [I64], by simp [I64]⟩
theorem x_wf4 : Wf xNone := ⟨by simp [I64], by simp, by simp, by simp, by simp, by simp, by simp⟩
theorem x_ok1 : Ok xAnd := ⟨x_wf1, by decide, by simp, by simp, by simp⟩
theorem x_ok2 : Ok xAgain := ⟨x_wf2, by decide, by simp, by simp, by simp⟩
theorem x_ok3 : Ok xOr := ⟨x_wf3, by decide, by simp, by simp, by simp⟩
theorem x_two12 : Two xAnd xAgain := ⟨x_ok1, x_ok2, rfl, rfl, rfl, by simp⟩
theorem x_two13 : Two xAnd xOr := ⟨x_ok1, x_ok3, rfl, rfl, rfl, by simp⟩
theorem x1 : sameS xAnd xAgain = (true, [], []) := by decide
set_option maxRecDepth 100000 in
theorem x2 : sameS xAnd xOr = (false, [false, true], []) := by decide
theorem x3 : forksS xAnd = ((2, [(-1, 0, 0), (-1, 0, 0), (0, 0, 1), (1, 0, 1), (0, 0, 3)]), [4]) := by decide
theorem x4 : miterM xAnd xAgain = ⟨2, [], [(2, 4)], [0]⟩ := by decide
theorem x5 : traceS xAnd xOr [[true, true], [true, false]] = (1, 0) := by decide
theorem x6 : traceS xAnd xAgain [[true, true], [true, false]] = (-1, 0) := by decide
theorem x7 : traceS xAnd xOr [[true]] = (0, 1) := by decide
set_option maxRecDepth 20000 in
set_option maxHeartbeats 8000000 in
theorem law_live (σ : Sig) : ACalls Try.prog 11 [] σ (fun r σ' => r = .ret (.bool true) ∧ σ' = σ) := by
  refine calls_x mixed Try.func11 b11 n11 rfl q11 (by simp) ?_; unfold c11 r11
  have c1 := fun τ => eq_Same xAnd xAgain x_two12 τ
  have c2 := fun τ => eq_Same xAnd xOr x_two13 τ
  have c3 := fun τ => eq_Forks xAnd x_ok1 τ
  have c4 := fun τ => eq_Miter xAnd xAgain x_two12 τ
  have c5 := fun τ => eq_Trace xAnd xOr [[true, true], [true, false]] τ x_wf1 x_wf3 (by simp) (by decide) rfl rfl (fun _ => by decide) (by decide) (by decide)
  have c6 := fun τ => eq_Trace xAnd xAgain [[true, true], [true, false]] τ x_wf1 x_wf2 (by simp) (by decide) rfl rfl (fun _ => by decide) (by decide) (by decide)
  have c7 := fun τ => eq_Trace xAnd xOr [[true]] τ x_wf1 x_wf3 (by simp) (by decide) rfl rfl (fun h => by revert h; decide) (by decide) (by decide)
  have c8 := fun τ => eq_Same_arg xAnd xNone x_wf1 x_wf4 (by decide) (by simp) τ
  rw [x1] at c1
  rw [x2] at c2
  rw [x3] at c3
  rw [x4] at c4
  rw [x5] at c5
  rw [x6] at c6
  rw [x7] at c7
  repeat' (first | simp (maxDischargeDepth := 9) -implicitDefEqProofs -dsimp only [go_sem, seval, List.map_cons, List.map_nil, *] | ((with_reducible refine Zt (fun oF hoF hnF hnF' => ?_)); clear hnF hnF'; (try simp only [Zw, ne_eq] at hoF)) | ((with_reducible apply ACalls.one1); (focus (first | ((first | with_reducible refine c1 _ | with_reducible refine c2 _ | with_reducible refine c3 _ | with_reducible refine c4 _ | with_reducible refine c5 _ | with_reducible refine c6 _ | with_reducible refine c7 _ | with_reducible refine c8 _) <;> (first | (simp (maxDischargeDepth := 9) -implicitDefEqProofs -dsimp only [go_sem, seval, *]; done) | omega)) | (with_reducible refine ACalls.flA (c1 _) ?_ <;> (first | (simp (maxDischargeDepth := 9) -implicitDefEqProofs -dsimp only [go_sem, seval, *]; done) | omega)) | (with_reducible refine ACalls.flA (c2 _) ?_ <;> (first | (simp (maxDischargeDepth := 9) -implicitDefEqProofs -dsimp only [go_sem, seval, *]; done) | omega)) | (with_reducible refine ACalls.flA (c3 _) ?_ <;> (first | (simp (maxDischargeDepth := 9) -implicitDefEqProofs -dsimp only [go_sem, seval, *]; done) | omega)) | (with_reducible refine ACalls.flA (c4 _) ?_ <;> (first | (simp (maxDischargeDepth := 9) -implicitDefEqProofs -dsimp only [go_sem, seval, *]; done) | omega)) | (with_reducible refine ACalls.flA (c5 _) ?_ <;> (first | (simp (maxDischargeDepth := 9) -implicitDefEqProofs -dsimp only [go_sem, seval, *]; done) | omega)) | (with_reducible refine ACalls.flA (c6 _) ?_ <;> (first | (simp (maxDischargeDepth := 9) -implicitDefEqProofs -dsimp only [go_sem, seval, *]; done) | omega)) | (with_reducible refine ACalls.flA (c7 _) ?_ <;> (first | (simp (maxDischargeDepth := 9) -implicitDefEqProofs -dsimp only [go_sem, seval, *]; done) | omega)) | (with_reducible refine ACalls.flA (c8 _) ?_ <;> (first | (simp (maxDischargeDepth := 9) -implicitDefEqProofs -dsimp only [go_sem, seval, *]; done) | omega)))); (focus (first | trivial | with_reducible exact rfl | (simp (maxDischargeDepth := 9) -implicitDefEqProofs -dsimp only [go_sem, seval]; done)))))
  refine fin_eq ?_
  (repeat' (first | simp (maxDischargeDepth := 9) -implicitDefEqProofs -dsimp only [go_sem, seval, *])) <;> (repeat' refine And.intro ?_ ?_) <;> (first | omega | rfl | assumption | skip)
end Go.Proofs.Ytjichkelfhcbcaa

namespace Fil
open Abs Go
theorem i64_min : IntKind.i64.min = -9223372036854775808 := by decide
theorem i64_max : IntKind.i64.max = 9223372036854775807 := by decide
theorem I64_of {n : Int} (h : IntKind.i64.min ≤ n ∧ n ≤ IntKind.i64.max) : I64 n := by rw [i64_min, i64_max] at h; exact h
theorem arg_int {a : AV} (h : ShV false (.int .i64) a) : ∃ n, a = encInt n ∧ I64 n := by
  obtain ⟨n, e, hn⟩ := shv_int h
  exact ⟨n, e, I64_of hn⟩
theorem arg_bool {a : AV} (h : ShV false .bool a) : ∃ b, a = encBool b ∧ True := by
  obtain ⟨b, e⟩ := shv_bool h
  exact ⟨b, e, trivial⟩
theorem arg_bools {a : AV} (h : ShV false (.slice false .bool) a) : ∃ l : List Bool, a = .slice (l.map encBool) .no ∧ l.length ≤ maxLen := by
  obtain ⟨m, e, h1, _⟩ := shv_slice (f := encBool) (p := fun _ => True) h fun x hx => arg_bool hx
  exact ⟨m, e, h1⟩
theorem arg_gate {a : AV} (h : ShV true (.row [.int .i64, .int .i64]) a) : ∃ x : Int × Int, a = encGate x ∧ I64 x.1 ∧ I64 x.2 := by
  obtain ⟨es, e, p, q, rfl, ⟨n, rfl, hn⟩, p', q', rfl, ⟨m, rfl, hm⟩, rfl⟩ := h
  simp [mkv] at e
  exact ⟨(n, m), e.symm, I64_of hn, I64_of hm⟩
theorem arg_flop {a : AV} (h : ShV true (.row [.int .i64, .bool]) a) : ∃ x : Flop, a = encFlop x ∧ I64 x.next := by
  obtain ⟨es, e, p, q, rfl, ⟨n, rfl, hn⟩, p', q', rfl, ⟨m, rfl⟩, rfl⟩ := h
  simp [mkv] at e
  exact ⟨⟨n, m⟩, e.symm, I64_of hn⟩
structure Wide (g : Aig) : Prop where
  ins : I64 g.ins
  nexts : ∀ f ∈ g.flops, I64 f.next
  gates : ∀ x ∈ g.ands, I64 x.1 ∧ I64 x.2
  lits : ∀ a ∈ g.outs, I64 a
theorem arg_aig {a : AV} (h : ShV true (.row [.int .i64, .slice true (.row [.int .i64, .bool]), .slice true (.row [.int .i64, .int .i64]), .slice false (.int .i64)]) a) : ∃ g : Aig, a = encAig g ∧ Wide g := by
  obtain ⟨es, e, p, q, rfl, ⟨n, rfl, hn⟩, p1, q1, rfl, h1, p2, q2, rfl, h2, p3, q3, rfl, h3, rfl⟩ := h
  obtain ⟨fl, rfl, _, k1⟩ := shc_slice (f := encFlop) (p := fun x : Flop => I64 x.next) h1 fun x hx => arg_flop hx
  obtain ⟨an, rfl, _, k2⟩ := shc_slice (f := encGate) (p := fun x : Int × Int => I64 x.1 ∧ I64 x.2) h2 fun x hx => arg_gate hx
  obtain ⟨ou, rfl, _, k3⟩ := shc_slice (f := encInt) (p := I64) h3 fun x hx => arg_int hx
  simp [mkv] at e
  exact ⟨⟨n, fl, an, ou⟩, e.symm, I64_of hn, k1, k2, k3⟩
def Few (g : Aig) : Prop := g.ins ≤ 200 ∧ g.flops.length ≤ 200 ∧ g.ands.length ≤ 1000 ∧ g.outs.length ≤ 200
end Fil

namespace Fil.Eqv
open Abs Go
def fewB (g : Aig) : Bool := decide (IntKind.i64.wrap (g.ins + g.flops.length) ≤ 8) && decide (-1 ≤ g.ins) && decide (g.flops.length ≤ 8) && decide (g.ands.length ≤ 40) && decide (g.outs.length ≤ 10)
theorem few_spec {g : Aig} (h : fewB g = true) (hw : Wide g) : Wf g ∧ g.flops.length ≤ 8 ∧ g.ands.length ≤ 40 ∧ g.outs.length ≤ 10 ∧ (g.check = 0 → Ok g) := by
  simp only [fewB, Bool.and_eq_true, decide_eq_true_eq] at h
  obtain ⟨⟨⟨⟨h1, h2⟩, h3⟩, h4⟩, h5⟩ := h
  have hwf : Wf g := ⟨hw.ins, by omega, by omega, by omega, hw.nexts, hw.gates, hw.lits⟩
  refine ⟨hwf, h3, h4, h5, fun hc => ⟨hwf, hc, ?_, by omega, by omega⟩⟩
  have hs := check_small hwf hc
  have := hs.hi
  have := hs.lo
  rw [wrap64 _ (by omega) (by omega)] at h1
  exact h1
theorem eval_ok {g : Aig} (hc : g.check = 0) {inp st : List Bool} (h1 : (inp.length : Int) = g.ins) (h2 : st.length = g.flops.length) :
    g.Eval inp st = (g.outs.map (at_ g (inp ++ st)), (g.flops.map (·.next)).map (at_ g (inp ++ st)), 0) := by
  unfold Aig.Eval
  rw [nodes_eq hc h1 h2, if_neg (by simp), List.map_map]
  rfl
theorem outV_eq (g : Aig) (s : List Bool) : outV g s = g.outs.map (at_ g s) ++ (g.flops.map (·.next)).map (at_ g s) := by simp [outV, lits]
end Fil.Eqv

namespace Go.Proofs.Ytjichkelfhcbcaa
open Abs Fil Fil.Eqv
open Bd (D encB encF)
theorem law_few (g : Aig) (σ : Sig) : ACalls Try.prog 12 [encAig g] σ (fun r σ' => r = .ret (.bool (fewB g)) ∧ σ' = σ) := by
  refine calls_x mixed Try.func12 b12 n12 rfl q12 (by simp) ?_; unfold c12 r12
  unfold fewB
  obtain ⟨w, hw⟩ : ∃ w, IntKind.i64.wrap (g.ins + g.flops.length) = w := ⟨_, rfl⟩
  rw [hw]
  repeat' (first | simp (maxDischargeDepth := 9) -implicitDefEqProofs -dsimp only [go_sem, seval, ge_iff_le, *] | (with_reducible (first | apply Za) <;> intro hq))
  all_goals refine fin_eq ?_
  all_goals (repeat' (first | simp (maxDischargeDepth := 9) -implicitDefEqProofs -dsimp only [go_sem, seval, *])) <;> (repeat' refine And.intro ?_ ?_) <;> (first | omega | rfl | assumption | skip)
  all_goals (rw [Bool.eq_iff_iff]; simp only [Bool.and_eq_true, decide_eq_true_eq, Bool.false_eq_true]; constructor <;> intro hh <;> first | exact hh.elim | omega)
end Go.Proofs.Ytjichkelfhcbcaa

