/- equiv: contracts of Same, Trace. -/
import Derived.Test.YtjichkelfhcbcaaEqvEqvC
set_option linter.unusedSimpArgs false
set_option linter.unusedVariables false
namespace Fil.Eqv
open Abs
open Bd (D T3 In T varW notW iteW)
structure Room (b : D) : Prop where
  len : b.2.length ≤ 9223372036854775807
  room : Bd.Fine b.1 b.2 → b.2.length + 2 ^ (b.1.toNat + 1) ≤ 65537
  few : Bd.Fine b.1 b.2 → b.2.length < 65536
theorem Good.toRoom {n c : Nat} {b : D} (h : Good n c b) (hc : c ≤ 2000) : Room b := by
  have := h.room hc
  exact ⟨this.2.2.2, fun _ => this.1, fun _ => this.2.2.1⟩
structure LitAt (b : D) (nodes : List Int) (l : Int) : Prop where
  pos : 0 ≤ l
  lt : (l / 2).toNat < nodes.length
  few : l ≤ 4611686018427387904
  not : l % 2 ≠ 0 → notW b (nodes.getD (l / 2).toNat 0) = ((litM b nodes l).1, (litM b nodes l).2, 0)
  room : Room b
theorem rep_at {n c : Nat} {b : D} {nodes : List Int} {w v : List Bool} (h : Rep n c b nodes w v) (hc : c < 2000) {l : Int} (h0 : 0 ≤ l) (h1 : l < 2 * nodes.length) (hl : l ≤ 4611686018427387904) : LitAt b nodes l :=
  ⟨h0, by omega, hl, (rep_lit h hc h0 (by omega)).2.2.2.2, h.good.toRoom (by omega)⟩
theorem var_step {n i : Nat} (hn : n ≤ 8) (hi : i < n) : ∃ x, varW (stVars n i).1 i = ((stVars n (i + 1)).1, x, 0) ∧ (stVars n (i + 1)).2 = (stVars n i).2 ++ [x] ∧ Room (stVars n i).1 := by
  obtain ⟨r1, _⟩ := rep_vars hn (w := List.replicate n false) zeros i (by omega)
  have e : stVars n (i + 1) = stVar (stVars n i) i := by simp [stVars, List.range_succ]
  obtain ⟨_, k2⟩ := rep_var r1 (by omega) (show i < n by omega)
  refine ⟨(varW (stVars n i).1 i).2.1, ?_, by rw [e]; rfl, r1.good.toRoom (by omega)⟩
  rw [e]
  exact Prod.ext rfl (Prod.ext rfl k2)
theorem vars_len {n i : Nat} (hn : n ≤ 8) (hi : i ≤ n) : (stVars n i).2.length = i + 1 ∧ (stVars n i).1.1 = n := by
  obtain ⟨r1, r2⟩ := rep_vars hn (w := List.replicate n false) zeros i hi
  exact ⟨r2, r1.good.vars⟩
def stAt (g : Aig) (n i : Nat) : S := (g.ands.take i).foldl stAnd (stVars n n)
theorem stAt_rep {g : Aig} (h : Ok g) {n : Nat} (hn : (n : Int) = g.ins + g.flops.length) {w : List Bool} (hw : w.length = n) {i : Nat} (hi : i ≤ g.ands.length) :
    Rep n (n + 3 * i) (stAt g n i).1 (stAt g n i).2 w (Aig.vals (false :: w) (g.ands.take i)) ∧ (stAt g n i).2.length = n + 1 + i := by
  have h8 := h.eight
  have ha := h.ands
  subst hw
  obtain ⟨r1, r2⟩ := rep_vars (n := w.length) (by omega) rfl w.length (Nat.le_refl _)
  have ht : (false :: w).take (w.length + 1) = false :: w := List.take_of_length_le (by simp)
  rw [ht] at r1
  have hg := (good_gates h.good)
  have hfst : g.first = ((w.length + 1 : Nat) : Int) := by unfold Aig.first; omega
  rw [hfst] at hg
  have hl : (g.ands.take i).length = i := by simp; omega
  have hgi : Aig.gatesOk (w.length + 1 : Nat) (g.ands.take i) = true := by
    have e := List.take_append_drop i g.ands
    rw [← e, gatesOk_append, Bool.and_eq_true] at hg
    exact hg.1
  have := rep_ands (g.ands.take i) w.length (stVars w.length w.length) (false :: w) r1 (by omega) (by rw [r2]; exact hgi)
  rw [hl, r2] at this
  exact this
theorem and_step {g : Aig} (h : Ok g) {n : Nat} (hn : (n : Int) = g.ins + g.flops.length) {i : Nat} (hi : i < g.ands.length) : ∃ p q y : Int, ∃ b1 b2 : D,
    LitAt (stAt g n i).1 (stAt g n i).2 g.ands[i].1 ∧ litM (stAt g n i).1 (stAt g n i).2 g.ands[i].1 = (b1, p) ∧ LitAt b1 (stAt g n i).2 g.ands[i].2 ∧ litM b1 (stAt g n i).2 g.ands[i].2 = (b2, q) ∧
    iteW b2 p q 0 = ((stAt g n (i + 1)).1, y, 0) ∧ (stAt g n (i + 1)).2 = (stAt g n i).2 ++ [y] ∧ Room b2 ∧ b1.1 = n ∧ b2.1 = n := by
  have h8 := h.eight
  have ha := h.ands
  obtain ⟨r1, r2⟩ := stAt_rep h hn (w := List.replicate n false) zeros (Nat.le_of_lt hi)
  have hg := gatesOk_iff.1 (good_gates h.good) i hi
  have hfst : g.first = ((n + 1 : Nat) : Int) := by unfold Aig.first; omega
  have hlo := h.lo
  obtain ⟨g1, g2⟩ := hg
  have l1 : 0 ≤ g.ands[i].1 ∧ g.ands[i].1 < 2 * ((stAt g n i).2.length : Int) := by rw [r2]; omega
  have l2 : 0 ≤ g.ands[i].2 ∧ g.ands[i].2 < 2 * ((stAt g n i).2.length : Int) := by rw [r2]; omega
  obtain ⟨_, k2, k3, k4⟩ := rep_and r1 (by omega) l1 l2
  have e : stAt g n (i + 1) = stAnd (stAt g n i) g.ands[i] := by
    unfold stAt
    rw [take_succ hi, List.foldl_append]; rfl
  refine ⟨(litM (stAt g n i).1 (stAt g n i).2 g.ands[i].1).2, (litM (litM (stAt g n i).1 (stAt g n i).2 g.ands[i].1).1 (stAt g n i).2 g.ands[i].2).2, (iteW (litM (litM (stAt g n i).1 (stAt g n i).2 g.ands[i].1).1 (stAt g n i).2 g.ands[i].2).1 (litM (stAt g n i).1 (stAt g n i).2 g.ands[i].1).2 (litM (litM (stAt g n i).1 (stAt g n i).2 g.ands[i].1).1 (stAt g n i).2 g.ands[i].2).2 0).2.1, _, _, rep_at r1 (by omega) l1.1 l1.2 (by omega), rfl, rep_at k3 (by omega) l2.1 l2.2 (by omega), rfl, ?_, ?_, k4.good.toRoom (by omega), k3.good.vars, k4.good.vars⟩
  · rw [e]
    exact Prod.ext rfl (Prod.ext rfl k2)
  · rw [e]; rfl
def outAt (g : Aig) (i : Nat) : S := ((lits g).take i).foldl (stOut (bodyS g).2) ((bodyS g).1, [])
theorem body_at {g : Aig} {n : Nat} (hn : (n : Int) = g.ins + g.flops.length) : bodyS g = stAt g n g.ands.length := by
  unfold bodyS stAt
  rw [List.take_length, show (g.ins + g.flops.length).toNat = n by omega]
theorem out_all (g : Aig) : outAt g (lits g).length = forksS g := by unfold outAt forksS; rw [List.take_length]
theorem out_len (nodes : List Int) : ∀ (l : List Int) (s : S), (l.foldl (stOut nodes) s).2.length = s.2.length + l.length
  | [], s => by simp
  | a :: l, s => by
    have := out_len nodes l (stOut nodes s a)
    simp only [List.foldl_cons, List.length_cons, this]
    simp [stOut]; omega
theorem out_pre (nodes : List Int) : ∀ (l : List Int) (s : S), ∃ m, (l.foldl (stOut nodes) s).2 = s.2 ++ m
  | [], s => ⟨[], by simp⟩
  | a :: l, s => by
    obtain ⟨m, h⟩ := out_pre nodes l (stOut nodes s a)
    exact ⟨(litM s.1 nodes a).2 :: m, by simp only [List.foldl_cons, h]; simp [stOut]⟩
theorem out_step {g : Aig} (h : Ok g) {n : Nat} (hn : (n : Int) = g.ins + g.flops.length) {i : Nat} (hi : i < (lits g).length) :
    LitAt (outAt g i).1 (bodyS g).2 (lits g)[i] ∧ litM (outAt g i).1 (bodyS g).2 (lits g)[i] = ((outAt g (i + 1)).1, (forksS g).2.getD i 0) ∧ (outAt g i).1.1 = n := by
  have h8 := h.eight
  have ha := h.ands
  have ho := h.outs
  have hll := lits_len g
  have hlo := h.lo
  have hw : (((List.replicate n false).length : Nat) : Int) = g.ins + g.flops.length := by rw [zeros]; exact hn
  obtain ⟨b1, b2⟩ := body_rep h hw
  rw [zeros] at b1 b2
  have hfst : ((n + 1 : Nat) : Int) = g.first := by unfold Aig.first; omega
  have hlt : ((lits g).take i).length = i := by simp; omega
  have r := rep_outs (n := n) (nodes := (bodyS g).2) (w := List.replicate n false) (v := Aig.vals (false :: List.replicate n false) g.ands) ((lits g).take i) (n + 3 * g.ands.length) (bodyS g).1 [] [] b1
    ⟨b1.good, zeros, rfl, by simp, by simp⟩ (by omega) fun a ha => by
      have := lit_at hfst (h.lits a (List.mem_of_mem_take ha))
      rw [b2]; omega
  have r2 := r.2
  have hl := lit_at hfst (h.lits _ (List.getElem_mem hi))
  have hc : n + 3 * g.ands.length + ((lits g).take i).length < 2000 := by omega
  refine ⟨rep_at r2 hc hl.1 (by rw [b2]; omega) (by omega), ?_, r2.good.vars⟩
  have e : outAt g (i + 1) = stOut (bodyS g).2 (outAt g i) (lits g)[i] := by
    unfold outAt
    rw [take_succ hi, List.foldl_append]; rfl
  have e2 : (forksS g).2.getD i 0 = (litM (outAt g i).1 (bodyS g).2 (lits g)[i]).2 := by
    obtain ⟨m, hm⟩ := out_pre (bodyS g).2 ((lits g).drop (i + 1)) (outAt g (i + 1))
    have hf : forksS g = ((lits g).drop (i + 1)).foldl (stOut (bodyS g).2) (outAt g (i + 1)) := by
      unfold forksS outAt
      rw [← List.foldl_append, List.take_append_drop]
    rw [hf, hm, e]
    have hl2 : (outAt g i).2.length = i := by
      unfold outAt
      rw [out_len, hlt]; simp
    simp only [stOut, List.append_assoc, List.getD_eq_getElem?_getD]
    rw [List.getElem?_append_right (by omega), hl2]
    simp
  rw [e2, e]; rfl
theorem forks_len (g : Aig) : (forksS g).2.length = g.outs.length + g.flops.length := by
  unfold forksS
  rw [out_len, lits_len]; simp
end Fil.Eqv

namespace Go.Proofs.Ytjichkelfhcbcaa
open Abs Fil Fil.Eqv
open Bd (D encB encF)
theorem Zw (σ : Sig) (o o' : Nat) (x : AObj) : (upd σ o x o' = none) = (¬ o' = o ∧ ¬ o = o' ∧ σ o' = none) := B.Zw σ o o' x
theorem new_ok {n : Nat} (h : n ≤ 8) : B.newW (n : Int) = (newB n, 0) := by
  unfold B.newW newB
  rw [if_neg (by omega), if_neg (by omega)]
set_option maxRecDepth 20000 in
set_option maxHeartbeats 4000000 in
theorem eq_Forks (g : Aig) (hg : Ok g) (σ : Sig) :
    ACalls Try.prog 13 [encAig g] σ (fun r σ' => r = .ret (.tup [encB (forksS g).1.1 (forksS g).1.2, .slice ((forksS g).2.map encInt) .no, .int .i64 0]) ∧ σ' = σ) := by
  refine calls_x mixed Try.func13 b13 n13 rfl q13 (by simp) ?_; unfold c13 r13
  have ez : ((0 : Int) != 0) = false := by decide
  have hlo := hg.lo
  have h8 := hg.eight
  have hck := hg.check
  have hwf := hg.wf
  obtain ⟨n, hn⟩ : ∃ n : Nat, (n : Int) = g.ins + g.flops.length := ⟨(g.ins + g.flops.length).toNat, by omega⟩
  have hn8 : n ≤ 8 := by omega
  have hnn : g.ins + g.flops.length = (n : Int) := hn.symm
  have hnew := fun τ => B.bdd_New (n : Int) τ
  rw [new_ok hn8] at hnew
  have hand : g.ands.length ≤ 300 := hg.ands
  clear hn
  repeat' (first | simp (maxDischargeDepth := 9) -implicitDefEqProofs -dsimp only [go_sem, seval, *] | simp (disch := omega) only [wrap64] | ((with_reducible refine Zv ?_ ?_); focus (first | omega | exact rfl)) | ((with_reducible refine Zu ?_ ?_); focus omega) | ((with_reducible refine Zt (fun oF hoF hnF hnF' => ?_)); clear hnF hnF'; (try simp only [Zw, ne_eq] at hoF)) | ((with_reducible apply ACalls.one1); (focus ((first | with_reducible refine A.aig_Check g _ hwf | with_reducible refine hnew _ | with_reducible refine ACalls.flA (A.aig_Check g _ hwf) ?_ | with_reducible refine ACalls.flA (hnew _) ?_) <;> (first | (simp (maxDischargeDepth := 9) -implicitDefEqProofs -dsimp only [go_sem, seval, *]; done) | omega))); (focus (first | trivial | with_reducible exact rfl | (simp (maxDischargeDepth := 9) -implicitDefEqProofs -dsimp only [go_sem, seval]; done)))))
  rename_i o2 h2 o6 h6 oN hN oM hM
  obtain ⟨oC, eC⟩ : ∃ x, x = oF := ⟨oF, rfl⟩
  subst eC
  obtain ⟨l0, l1⟩ := vars_len hn8 (Nat.zero_le n)
  refine loop_rule (fun i : Nat => [(41, some (.int .i64 i)), (40, some (.int .i64 n)), (8, some (.ptr oC 0)), (1, some (.cptr (aigL g))), (2, some (.ptr o2 0))])
    (fun i => upd (upd (upd (upd (upd σ o2 (.cells [.int .i64 0, .slice [] .nil])) o6 (.cells [.int .i64 n, .slice ((newB n).2.map encF) .no])) oN (.grow 1 (i + 1))) oM (makC (stVars n i).1 (stVars n i).2 (.own oN))) oC (.cells [.ptr oM 0])) (fun i => i ≤ n) (fun i => n - i) 0 ?_ ?_
  · have e1 : (stVars n 0).1 = newB n := rfl
    have e2 : (stVars n 0).2 = [0] := rfl
    have e3 : (newB n).1 = (n : Int) := rfl
    (repeat' (first | simp (maxDischargeDepth := 9) -implicitDefEqProofs -dsimp only [go_sem, seval, e1, e2, e3, List.map_cons, List.map_nil, *] | simp (disch := omega) only [wrap64])) <;> (repeat' refine And.intro ?_ ?_) <;> (first | omega | rfl | assumption | skip)
  · intro i hi
    by_cases hlt : i < n
    · have hlt' : (i : Int) < n := by omega
      obtain ⟨x, k1, k2, k3⟩ := var_step hn8 hlt
      obtain ⟨k4, k5⟩ := vars_len hn8 hi
      obtain ⟨k3l, k3r, k3f⟩ := k3
      obtain ⟨⟨b, ns⟩, hb⟩ : ∃ s, stVars n i = s := ⟨_, rfl⟩
      obtain ⟨⟨c, ms⟩, hc⟩ : ∃ s, stVars n (i + 1) = s := ⟨_, rfl⟩
      rw [hb] at k1 k2 k3l k3r k3f k4 k5 ⊢
      rw [hc] at k1 k2
      simp only at k1 k2 k3l k3r k3f k4 k5
      subst k2
      have hns : ns.length ≤ 9 := by omega
      repeat' (first | simp (maxDischargeDepth := 9) -implicitDefEqProofs -dsimp only [go_sem, seval, *] | simp (disch := omega) only [wrap64] | ((with_reducible refine Zv ?_ ?_); focus (first | omega | exact rfl)) | ((with_reducible refine Zu ?_ ?_); focus omega) | ((with_reducible refine Zt (fun oF hoF hnF hnF' => ?_)); clear hnF hnF'; (try simp only [Zw, ne_eq] at hoF)) | ((with_reducible apply ACalls.one1); (focus ((first | with_reducible refine eq_put oM 36 [.ptr oC 0, .ptr oF 0] b c ns (.own oN) x _ ?_ (eq_var1 oC oF oM b ns (.own oN) i _ ?_ ?_ ?_ k3l k3f k1) | with_reducible refine ACalls.flA (eq_put oM 36 [.ptr oC 0, .ptr oF 0] b c ns (.own oN) x _ ?_ (eq_var1 oC oF oM b ns (.own oN) i _ ?_ ?_ ?_ k3l k3f k1)) ?_) <;> (first | (simp (maxDischargeDepth := 9) -implicitDefEqProofs -dsimp only [go_sem, seval, *]; done) | omega))); (focus (first | trivial | with_reducible exact rfl | (simp (maxDischargeDepth := 9) -implicitDefEqProofs -dsimp only [go_sem, seval]; done)))) | ((with_reducible apply id_one0); (focus (intro tS hS; ((first | with_reducible refine eq_put oM 36 [.ptr oC 0, .ptr oF 0] b c ns (.own oN) x _ ?_ (eq_var1 oC oF oM b ns (.own oN) i _ ?_ ?_ ?_ k3l k3f k1) | with_reducible refine ACalls.flA (eq_put oM 36 [.ptr oC 0, .ptr oF 0] b c ns (.own oN) x _ ?_ (eq_var1 oC oF oM b ns (.own oN) i _ ?_ ?_ ?_ k3l k3f k1)) ?_) <;> (first | (simp (maxDischargeDepth := 9) -implicitDefEqProofs -dsimp only [go_sem, seval, *]; done) | omega | ((with_reducible refine Sub.get hS ?_); simp (maxDischargeDepth := 9) -implicitDefEqProofs -dsimp only [go_sem, seval, *]; done))))); (focus (first | trivial | (simp (maxDischargeDepth := 9) -implicitDefEqProofs -dsimp only [go_sem, seval, *]; done)))) | ((with_reducible apply id_one1); (focus (intro tS hS; ((first | with_reducible refine eq_put oM 36 [.ptr oC 0, .ptr oF 0] b c ns (.own oN) x _ ?_ (eq_var1 oC oF oM b ns (.own oN) i _ ?_ ?_ ?_ k3l k3f k1) | with_reducible refine ACalls.flA (eq_put oM 36 [.ptr oC 0, .ptr oF 0] b c ns (.own oN) x _ ?_ (eq_var1 oC oF oM b ns (.own oN) i _ ?_ ?_ ?_ k3l k3f k1)) ?_) <;> (first | (simp (maxDischargeDepth := 9) -implicitDefEqProofs -dsimp only [go_sem, seval, *]; done) | omega | ((with_reducible refine Sub.get hS ?_); simp (maxDischargeDepth := 9) -implicitDefEqProofs -dsimp only [go_sem, seval, *]; done))))); (focus (first | trivial | (simp (maxDischargeDepth := 9) -implicitDefEqProofs -dsimp only [go_sem, seval, *]; done)))))
      refine loop_next _ _ _ _ (i + 1) ?_; (repeat' (first | simp (maxDischargeDepth := 9) -implicitDefEqProofs -dsimp only [go_sem, seval,  List.map_append, List.map_cons, List.map_nil, *] | simp (disch := omega) only [wrap64])) <;> (repeat' refine And.intro ?_ ?_) <;> (first | omega | rfl | assumption | skip)
    · have e : i = n := by omega
      subst e
      have hlt' : ¬ (i : Int) < i := by omega
      clear hlt hi l0 l1 hnew
      have z0 : stAt g i 0 = stVars i i := by simp [stAt]
      rw [← z0]
      repeat' (first | simp (maxDischargeDepth := 9) -implicitDefEqProofs -dsimp only [go_sem, seval, *] | simp (disch := omega) only [wrap64] | ((with_reducible refine Zv ?_ ?_); focus (first | omega | exact rfl)) | ((with_reducible refine Zu ?_ ?_); focus omega) | ((with_reducible refine Zt (fun oF hoF hnF hnF' => ?_)); clear hnF hnF'; (try simp only [Zw, ne_eq] at hoF)))
      refine loop_rule (fun j : Nat => [(60, some (.int .i64 j)), (59, some (.int .i64 g.ands.length)), (58, some (.slice (g.ands.map encGate) .no)), (8, some (.ptr oC 0)), (1, some (.cptr (aigL g))), (2, some (.ptr o2 0))])
        (fun j => upd (upd (upd (upd (upd σ o2 (.cells [.int .i64 0, .slice [] .nil])) o6 (.cells [.int .i64 i, .slice ((newB i).2.map encF) .no])) oN (.grow 1 (i + 1 + j))) oM (makC (stAt g i j).1 (stAt g i j).2 (.own oN))) oC (.cells [.ptr oM 0])) (fun j => j ≤ g.ands.length) (fun j => g.ands.length - j) 0 ?_ ?_
      · (repeat' (first | simp (maxDischargeDepth := 9) -implicitDefEqProofs -dsimp only [go_sem, seval, *] | simp (disch := omega) only [wrap64])) <;> (repeat' refine And.intro ?_ ?_) <;> (first | omega | rfl | assumption | skip)
      · intro j hj
        by_cases hlt : j < g.ands.length
        · have hlj : (j : Int) < g.ands.length := by omega
          obtain ⟨p, q, y, b1, b2, a1, a2, a3, a4, a5, a6, a7, a8, a9⟩ := and_step hg hnn.symm hlt
          have hl2 := (stAt_rep hg hnn.symm (w := List.replicate i false) zeros hj).2
          obtain ⟨⟨b, ns⟩, hb⟩ : ∃ s, stAt g i j = s := ⟨_, rfl⟩
          obtain ⟨⟨c, ms⟩, hc⟩ : ∃ s, stAt g i (j + 1) = s := ⟨_, rfl⟩
          rw [hb] at a1 a2 a3 a4 a6 hl2 ⊢
          rw [hc] at a5 a6
          simp only at a1 a2 a3 a4 a5 a6 hl2
          subst a6
          obtain ⟨u1, u2, u3, u4, u5⟩ := a1
          obtain ⟨v1, v2, v3, v4, v5⟩ := a3
          rw [a2] at u4
          rw [a4] at v4
          have cl1 := fun τ h => eq_lit oM b ns (.own oN) g.ands[j].1 τ h u1 u2 u3 u5.len u5.room (by rw [a2]; exact u4)
          have cl2 := fun τ h => eq_lit oM b1 ns (.own oN) g.ands[j].2 τ h v1 v2 v3 v5.len v5.room (by rw [a4]; exact v4)
          rw [a2] at cl1
          rw [a4] at cl2
          simp only at cl1 cl2
          clear hb u1 u2 u3 u4 u5 v1 v2 v3 v4 v5 a2 a4 hj z0
          have hns : ns.length ≤ 400 := by omega
          repeat' (first | simp (maxDischargeDepth := 9) -implicitDefEqProofs -dsimp only [go_sem, seval, *] | simp (disch := omega) only [wrap64] | ((with_reducible refine Zv ?_ ?_); focus (first | omega | exact rfl)) | ((with_reducible refine Zu ?_ ?_); focus omega) | ((with_reducible refine Zt (fun oF hoF hnF hnF' => ?_)); clear hnF hnF'; (try simp only [Zw, ne_eq] at hoF)) | ((with_reducible apply ACalls.one1); (focus ((first | with_reducible refine cl1 _ ?_ | with_reducible refine cl2 _ ?_ | with_reducible refine ACalls.flA (cl1 _ ?_) ?_ | with_reducible refine ACalls.flA (cl2 _ ?_) ?_) <;> (first | (simp (maxDischargeDepth := 9) -implicitDefEqProofs -dsimp only [go_sem, seval, *]; done) | omega))); (focus (first | trivial | with_reducible exact rfl | (simp (maxDischargeDepth := 9) -implicitDefEqProofs -dsimp only [go_sem, seval]; done)))))
          rename_i oP hP oX hX
          clear cl1 cl2
          repeat' (first | simp (maxDischargeDepth := 9) -implicitDefEqProofs -dsimp only [go_sem, seval, *] | simp (disch := omega) only [wrap64] | ((with_reducible refine Zv ?_ ?_); focus (first | omega | exact rfl)) | ((with_reducible refine Zu ?_ ?_); focus omega) | ((with_reducible refine Zt (fun oF hoF hnF hnF' => ?_)); clear hnF hnF'; (try simp only [Zw, ne_eq] at hoF)) | ((with_reducible apply ACalls.one1); (focus ((first | with_reducible refine eq_put oM 39 [.ptr oC 0, .ptr oX 0, .ptr oF 0] b2 c ns (.own oN) y _ ?_ (eq_ite1 oC oX oF oM b2 ns (.own oN) p q _ ?_ ?_ ?_ ?_ a7.len a7.room a5) | with_reducible refine ACalls.flA (eq_put oM 39 [.ptr oC 0, .ptr oX 0, .ptr oF 0] b2 c ns (.own oN) y _ ?_ (eq_ite1 oC oX oF oM b2 ns (.own oN) p q _ ?_ ?_ ?_ ?_ a7.len a7.room a5)) ?_) <;> (first | (simp (maxDischargeDepth := 9) -implicitDefEqProofs -dsimp only [go_sem, seval, *]; done) | omega))); (focus (first | trivial | with_reducible exact rfl | (simp (maxDischargeDepth := 9) -implicitDefEqProofs -dsimp only [go_sem, seval]; done)))) | ((with_reducible apply id_one0); (focus (intro tS hS; ((first | with_reducible refine eq_put oM 39 [.ptr oC 0, .ptr oX 0, .ptr oF 0] b2 c ns (.own oN) y _ ?_ (eq_ite1 oC oX oF oM b2 ns (.own oN) p q _ ?_ ?_ ?_ ?_ a7.len a7.room a5) | with_reducible refine ACalls.flA (eq_put oM 39 [.ptr oC 0, .ptr oX 0, .ptr oF 0] b2 c ns (.own oN) y _ ?_ (eq_ite1 oC oX oF oM b2 ns (.own oN) p q _ ?_ ?_ ?_ ?_ a7.len a7.room a5)) ?_) <;> (first | (simp (maxDischargeDepth := 9) -implicitDefEqProofs -dsimp only [go_sem, seval, *]; done) | omega | ((with_reducible refine Sub.get hS ?_); simp (maxDischargeDepth := 9) -implicitDefEqProofs -dsimp only [go_sem, seval, *]; done))))); (focus (first | trivial | (simp (maxDischargeDepth := 9) -implicitDefEqProofs -dsimp only [go_sem, seval, *]; done)))) | ((with_reducible apply id_one1); (focus (intro tS hS; ((first | with_reducible refine eq_put oM 39 [.ptr oC 0, .ptr oX 0, .ptr oF 0] b2 c ns (.own oN) y _ ?_ (eq_ite1 oC oX oF oM b2 ns (.own oN) p q _ ?_ ?_ ?_ ?_ a7.len a7.room a5) | with_reducible refine ACalls.flA (eq_put oM 39 [.ptr oC 0, .ptr oX 0, .ptr oF 0] b2 c ns (.own oN) y _ ?_ (eq_ite1 oC oX oF oM b2 ns (.own oN) p q _ ?_ ?_ ?_ ?_ a7.len a7.room a5)) ?_) <;> (first | (simp (maxDischargeDepth := 9) -implicitDefEqProofs -dsimp only [go_sem, seval, *]; done) | omega | ((with_reducible refine Sub.get hS ?_); simp (maxDischargeDepth := 9) -implicitDefEqProofs -dsimp only [go_sem, seval, *]; done))))); (focus (first | trivial | (simp (maxDischargeDepth := 9) -implicitDefEqProofs -dsimp only [go_sem, seval, *]; done)))))
          refine loop_next _ _ _ _ (j + 1) ?_; (repeat' (first | simp (maxDischargeDepth := 9) -implicitDefEqProofs -dsimp only [go_sem, seval,  List.map_append, List.map_cons, List.map_nil, *] | simp (disch := omega) only [wrap64])) <;> (repeat' refine And.intro ?_ ?_) <;> (first | omega | rfl | assumption | skip)
        · have e : j = g.ands.length := by omega
          have hlj : ¬ (g.ands.length : Int) < g.ands.length := by omega
          have hbd := body_at hnn.symm
          rw [e, ← hbd]
          clear hlt hj z0 hbd e
          have hst := fun k hk => out_step hg hnn.symm (i := k) hk
          have hfl := hwf.flops
          have hol := hwf.outs
          have hgo := hg.outs
          have hFl := forks_len g
          have hX : ∀ k (hk : k < (g.outs ++ g.flops.map (·.next)).length) (τ : Sig), τ oM = some (makC (outAt g k).1 (bodyS g).2 (.own oN)) →
              ACalls Try.prog 38 ([.ptr oM 0] ++ [.int .i64 (g.outs ++ g.flops.map (·.next))[k]] ++ []) τ (fun r s => r = .ret (.int .i64 ((forksS g).2.getD k 0)) ∧ s = upd τ oM (makC (outAt g (k + 1)).1 (bodyS g).2 (.own oN))) := fun k hk τ hτ => by
            obtain ⟨⟨u1, u2, u3, u4, u5⟩, s2, s3⟩ := hst k hk
            have := eq_lit oM (outAt g k).1 (bodyS g).2 (.own oN) (lits g)[k] τ hτ u1 u2 u3 u5.len u5.room u4
            rw [s2] at this
            exact this
          have hE := fun τ h => eq_each oM 38 [.ptr oM 0] [] g.outs (g.flops.map (·.next)) (forksS g).2 (fun k => makC (outAt g k).1 (bodyS g).2 (.own oN)) τ h (by rw [hFl]; simp) (by simp; omega) hX
          have hoe : (outAt g (g.outs.length + (g.flops.map (·.next)).length)).1 = (forksS g).1 := by
            rw [← out_all, lits_len]; simp
          have ho0 : outAt g 0 = ((bodyS g).1, []) := rfl
          rw [hoe] at hE
          simp only [ho0] at hE
          clear hX hst hFl
          repeat' (first | simp (maxDischargeDepth := 9) -implicitDefEqProofs -dsimp only [go_sem, seval, *] | simp (disch := omega) only [wrap64] | ((with_reducible refine Zv ?_ ?_); focus (first | omega | exact rfl)) | ((with_reducible refine Zu ?_ ?_); focus omega) | ((with_reducible refine Zt (fun oF hoF hnF hnF' => ?_)); clear hnF hnF'; (try simp only [Zw, ne_eq] at hoF)) | ((with_reducible apply ACalls.one1); (focus ((first | with_reducible refine eq_nexts g _ hfl | with_reducible refine hE _ ?_ | with_reducible refine ACalls.flA (eq_nexts g _ hfl) ?_ | with_reducible refine ACalls.flA (hE _ ?_) ?_) <;> (first | (simp (maxDischargeDepth := 9) -implicitDefEqProofs -dsimp only [go_sem, seval, *]; done) | omega))); (focus (first | trivial | with_reducible exact rfl | (simp (maxDischargeDepth := 9) -implicitDefEqProofs -dsimp only [go_sem, seval]; done)))) | ((with_reducible apply id_one0); (focus (intro tS hS; ((first | with_reducible refine eq_nexts g _ hfl | with_reducible refine hE _ ?_ | with_reducible refine ACalls.flA (eq_nexts g _ hfl) ?_ | with_reducible refine ACalls.flA (hE _ ?_) ?_) <;> (first | (simp (maxDischargeDepth := 9) -implicitDefEqProofs -dsimp only [go_sem, seval, *]; done) | omega | ((with_reducible refine Sub.get hS ?_); simp (maxDischargeDepth := 9) -implicitDefEqProofs -dsimp only [go_sem, seval, *]; done))))); (focus (first | trivial | (simp (maxDischargeDepth := 9) -implicitDefEqProofs -dsimp only [go_sem, seval, *]; done)))) | ((with_reducible apply id_one1); (focus (intro tS hS; ((first | with_reducible refine eq_nexts g _ hfl | with_reducible refine hE _ ?_ | with_reducible refine ACalls.flA (eq_nexts g _ hfl) ?_ | with_reducible refine ACalls.flA (hE _ ?_) ?_) <;> (first | (simp (maxDischargeDepth := 9) -implicitDefEqProofs -dsimp only [go_sem, seval, *]; done) | omega | ((with_reducible refine Sub.get hS ?_); simp (maxDischargeDepth := 9) -implicitDefEqProofs -dsimp only [go_sem, seval, *]; done))))); (focus (first | trivial | (simp (maxDischargeDepth := 9) -implicitDefEqProofs -dsimp only [go_sem, seval, *]; done)))))
          refine fin_eq ?_
          (repeat' (first | simp (maxDischargeDepth := 9) -implicitDefEqProofs -dsimp only [go_sem, seval, *] | simp (disch := omega) only [wrap64])) <;> (repeat' refine And.intro ?_ ?_) <;> (first | omega | rfl | assumption | skip)
end Go.Proofs.Ytjichkelfhcbcaa

namespace Fil.Eqv
open Abs
theorem lit_I64 {m : Aig} {a : Int} (hf : Fine m) (h : m.lit a = true) : I64 a := by
  have := litN_iff.1 h
  have := hf.cnt
  exact ⟨by omega, by omega⟩
theorem zs {g : Aig} (h : Ok g) : (((List.replicate (g.ins + g.flops.length).toNat false).length + 1 : Nat) : Int) = g.first := by
  have := h.lo
  unfold Aig.first; rw [zeros]; omega
def mAt (g h : Aig) (i : Nat) : Aig × List Int := (h.ands.take i).foldl mAnd (m0 g, to0 g)
theorem mAt_ok {g h : Aig} (t : Two g h) {s : List Bool} (hs : ((s.length + 1 : Nat) : Int) = g.first) {i : Nat} (hi : i ≤ h.ands.length) :
    Mov g (g.ands.length + i) (mAt g h i).1 (mAt g h i).2 s (Aig.vals (false :: s) (h.ands.take i)) ∧ (mAt g h i).2.length = s.length + 1 + i := by
  have k := to0_ok t.gg.wf t.gg.check t.gg.eight hs
  have hk : (to0 g).length = s.length + 1 := by rw [k.len]; simp
  have hg := good_gates t.hh.good
  rw [t.first, ← hs] at hg
  have hf := t.few
  have hl : (h.ands.take i).length = i := by simp; omega
  have hgi : Aig.gatesOk (s.length + 1 : Nat) (h.ands.take i) = true := by
    have e := List.take_append_drop i h.ands
    rw [← e, gatesOk_append, Bool.and_eq_true] at hg
    exact hg.1
  have := mov_ands (h.ands.take i) g.ands.length (m0 g, to0 g) (false :: s) k (by omega) (by rw [hk]; exact hgi)
  rw [hk, hl] at this
  exact this
structure Std (to : List Int) (l : Int) : Prop where
  pos : 0 ≤ l
  lt : (l / 2).toNat < to.length
  few : l ≤ 4611686018427387904
  lo : 0 ≤ to.getD (l / 2).toNat 0
  hi : to.getD (l / 2).toNat 0 ≤ 4611686018427387904
theorem std_of {g m : Aig} {N : Nat} {to : List Int} {s v : List Bool} (h : Mov g N m to s v) {l : Int} (h0 : 0 ≤ l) (h1 : l < 2 * to.length) (h2 : to.length ≤ 1000000) : Std to l := by
  have hl := h.lit _ (mem_getD (show (l / 2).toNat < to.length by omega))
  have := litN_iff.1 hl
  have := h.mi.fine.cnt
  exact ⟨h0, by omega, by omega, by omega, by omega⟩
theorem m_step {g h : Aig} (t : Two g h) {i : Nat} (hi : i < h.ands.length) : ∃ y, Std (mAt g h i).2 h.ands[i].1 ∧ Std (mAt g h i).2 h.ands[i].2 ∧ Wf (mAt g h i).1 ∧
    I64 (moveL (mAt g h i).2 h.ands[i].1) ∧ I64 (moveL (mAt g h i).2 h.ands[i].2) ∧
    (mAt g h i).1.And (moveL (mAt g h i).2 h.ands[i].1) (moveL (mAt g h i).2 h.ands[i].2) = ((mAt g h (i + 1)).1, y, 0) ∧ (mAt g h (i + 1)).2 = (mAt g h i).2 ++ [y] ∧ (mAt g h i).2.length ≤ 1000 := by
  have hs := zs t.gg
  obtain ⟨r1, r2⟩ := mAt_ok t hs (Nat.le_of_lt hi)
  have hg := gatesOk_iff.1 (good_gates t.hh.good) i hi
  rw [t.first, ← hs] at hg
  obtain ⟨g1, g2⟩ := hg
  have hf := t.few
  have h8 := t.gg.eight
  have hlo := t.gg.lo
  rw [zeros] at r2 g1 g2
  have l1 : 0 ≤ h.ands[i].1 ∧ h.ands[i].1 < 2 * ((mAt g h i).2.length : Int) := by rw [r2]; omega
  have l2 : 0 ≤ h.ands[i].2 ∧ h.ands[i].2 < 2 * ((mAt g h i).2.length : Int) := by rw [r2]; omega
  obtain ⟨_, k2, k3, k4⟩ := mov_and r1 (by omega) l1 l2
  have e : mAt g h (i + 1) = mAnd (mAt g h i) h.ands[i] := by
    unfold mAt
    rw [take_succ hi, List.foldl_append]; rfl
  refine ⟨((mAt g h i).1.And (moveL (mAt g h i).2 h.ands[i].1) (moveL (mAt g h i).2 h.ands[i].2)).2.1, std_of r1 l1.1 l1.2 (by omega), std_of r1 l2.1 l2.2 (by omega), wf_of r1.mi.fine, lit_I64 r1.mi.fine k3, lit_I64 r1.mi.fine k4, ?_, ?_, by omega⟩
  · rw [e]; exact Prod.ext rfl (Prod.ext rfl k2)
  · rw [e]; rfl
theorem m_all {g h : Aig} : mAt g h h.ands.length = bodyM g h := by unfold mAt bodyM; rw [List.take_length]
def dAt (g h : Aig) (i : Nat) : Aig × Int := ((pairsM g h).take i).foldl mDiff ((bodyM g h).1, 0)
theorem d_all {g h : Aig} : dAt g h (pairsM g h).length = miterS g h := by unfold dAt miterS; rw [List.take_length]
theorem body_lits {g h : Aig} (t : Two g h) : (∀ b ∈ lits h, Std (bodyM g h).2 b) ∧ (bodyM g h).2.length ≤ 1000 := by
  have hs := zs t.gg
  obtain ⟨r1, r2⟩ := bodyM_ok t hs
  have hf := t.few
  have h8 := t.gg.eight
  have hlo := t.gg.lo
  rw [zeros] at r2
  refine ⟨fun b hb => ?_, by omega⟩
  have := lit_at (g := h) (by rw [t.first]; exact hs) (t.hh.lits b hb)
  rw [zeros] at this
  exact std_of r1 this.1 (by omega) (by omega)
theorem d_step {g h : Aig} (t : Two g h) {i : Nat} (hi : i < (pairsM g h).length) : ∃ m d, Wf (dAt g h i).1 ∧ I64 (pairsM g h)[i].1 ∧ I64 (pairsM g h)[i].2 ∧ (dAt g h i).1.Xor (pairsM g h)[i].1 (pairsM g h)[i].2 = (m, d, 0) ∧
    Wf m ∧ I64 (dAt g h i).2 ∧ I64 d ∧ m.Or (dAt g h i).2 d = ((dAt g h (i + 1)).1, (dAt g h (i + 1)).2, 0) := by
  have hs := zs t.gg
  obtain ⟨b1, b2⟩ := bodyM_ok t hs
  have hf := t.few
  have h8 := t.gg.eight
  have hlo := t.gg.lo
  have ho := t.gg.outs
  have hpl := t.pairs
  have hlt : ((pairsM g h).take i).length = i := by simp; omega
  have h0 : (bodyM g h).1.lit 0 = true := litN_iff.2 (by
    have := b1.mi.fine.lo
    unfold Aig.count; omega)
  have hpr := pairs_lit t hs
  obtain ⟨d1, d2, d3, _⟩ := mov_diffs hs ((pairsM g h).take i) (g.ands.length + h.ands.length) (bodyM g h).1 0 b1.mi (fun p hp => hpr p (List.mem_of_mem_take hp)) h0 (by omega)
  rw [hlt] at d1
  have hp := hpr _ (List.getElem_mem hi)
  obtain ⟨x1, x2, x3, x4⟩ := mi_xor d1 (by omega) (d2.lit hp.1) (d2.lit hp.2)
  obtain ⟨y1, y2, y3, y4⟩ := mi_or x2 (by omega) (x3.lit d3) x4
  have e : dAt g h (i + 1) = mDiff (dAt g h i) (pairsM g h)[i] := by
    unfold dAt
    rw [List.take_add_one, List.getElem?_eq_getElem hi, List.foldl_append]; rfl
  refine ⟨_, _, wf_of d1.fine, lit_I64 d1.fine (d2.lit hp.1), lit_I64 d1.fine (d2.lit hp.2), Prod.ext rfl (Prod.ext rfl x1), wf_of x2.fine, lit_I64 d1.fine d3, lit_I64 x2.fine x4, ?_⟩
  rw [e]
  exact Prod.ext rfl (Prod.ext rfl y1)
end Fil.Eqv

namespace Go.Proofs.Ytjichkelfhcbcaa
open Abs Fil Fil.Eqv
def chk2 (g h : Aig) : Int := if g.check ≠ 0 then g.check else h.check
theorem eq_checked (g h : Aig) (σ : Sig) (hg : Wf g) (hh : Wf h) : ACalls Try.prog 47 [.slice [encAig g, encAig h] .no] σ (fun r σ' => r = .ret (.int .i64 (chk2 g h)) ∧ σ' = σ) := by
  refine calls_x mixed Try.func47 b47 n47 rfl q47 (by simp) ?_; unfold c47 r47
  repeat' (first | simp (maxDischargeDepth := 9) -implicitDefEqProofs -dsimp only [go_sem, seval, *] | simp (disch := omega) only [wrap64] | ((with_reducible refine Zt (fun oF hoF hnF hnF' => ?_)); (try simp only [upd_none, ne_eq, not_and] at hoF)))
  refine loop_rule (fun i : Nat => [(8, some (.int .i64 i)), (7, some (.int .i64 2)), (6, some (.slice [encAig g, encAig h] .no))]) (fun _ => σ) (fun i => i ≤ 2 ∧ (1 ≤ i → g.check = 0) ∧ (2 ≤ i → h.check = 0)) (fun i => 2 - i) 0 ?_ ?_
  · (repeat' (first | simp (maxDischargeDepth := 9) -implicitDefEqProofs -dsimp only [go_sem, seval, *] | simp (disch := omega) only [wrap64])) <;> (repeat' refine And.intro ?_ ?_) <;> (first | omega | rfl | assumption | skip)
    all_goals simp
  · rintro i ⟨hi, c1, c2⟩
    have ez : ((0 : Int) != 0) = false := by decide
    match i, hi with
    | 0, _ =>
      clear c1 c2
      obtain ⟨e, he⟩ : ∃ e, g.check = e := ⟨_, rfl⟩
      by_cases h0 : e = 0
      · subst h0
        repeat' (first | simp (maxDischargeDepth := 9) -implicitDefEqProofs -dsimp only [go_sem, seval, *] | simp (disch := omega) only [wrap64] | ((with_reducible refine Zt (fun oF hoF hnF hnF' => ?_)); (try simp only [upd_none, ne_eq, not_and] at hoF)) | ((with_reducible apply ACalls.one1); (focus ((first | with_reducible refine A.aig_Check g _ hg) <;> (first | (simp (maxDischargeDepth := 9) -implicitDefEqProofs -dsimp only [go_sem, seval, *]; done) | omega))); (focus (first | trivial | with_reducible exact rfl | (simp (maxDischargeDepth := 9) -implicitDefEqProofs -dsimp only [go_sem, seval]; done)))))
        refine loop_next _ _ _ _ (1) ?_; (repeat' (first | simp (maxDischargeDepth := 9) -implicitDefEqProofs -dsimp only [go_sem, seval, *] | simp (disch := omega) only [wrap64])) <;> (repeat' refine And.intro ?_ ?_) <;> (first | omega | rfl | assumption | skip)
        all_goals simp
      · have hb : (e != 0) = true := by simpa using h0
        have hv : chk2 g h = e := by unfold chk2; rw [he, if_pos h0]
        rw [hv]
        repeat' (first | simp (maxDischargeDepth := 9) -implicitDefEqProofs -dsimp only [go_sem, seval, *] | simp (disch := omega) only [wrap64] | ((with_reducible refine Zt (fun oF hoF hnF hnF' => ?_)); (try simp only [upd_none, ne_eq, not_and] at hoF)) | ((with_reducible apply ACalls.one1); (focus ((first | with_reducible refine A.aig_Check g _ hg) <;> (first | (simp (maxDischargeDepth := 9) -implicitDefEqProofs -dsimp only [go_sem, seval, *]; done) | omega))); (focus (first | trivial | with_reducible exact rfl | (simp (maxDischargeDepth := 9) -implicitDefEqProofs -dsimp only [go_sem, seval]; done)))))
        refine fin_eq ?_
        (repeat' (first | simp (maxDischargeDepth := 9) -implicitDefEqProofs -dsimp only [go_sem, seval, *] | simp (disch := omega) only [wrap64])) <;> (repeat' refine And.intro ?_ ?_) <;> (first | omega | rfl | assumption | skip)
    | 1, _ =>
      have g0 := c1 (by omega)
      clear c1 c2
      obtain ⟨e, he⟩ : ∃ e, h.check = e := ⟨_, rfl⟩
      by_cases h0 : e = 0
      · subst h0
        repeat' (first | simp (maxDischargeDepth := 9) -implicitDefEqProofs -dsimp only [go_sem, seval, *] | simp (disch := omega) only [wrap64] | ((with_reducible refine Zt (fun oF hoF hnF hnF' => ?_)); (try simp only [upd_none, ne_eq, not_and] at hoF)) | ((with_reducible apply ACalls.one1); (focus ((first | with_reducible refine A.aig_Check h _ hh) <;> (first | (simp (maxDischargeDepth := 9) -implicitDefEqProofs -dsimp only [go_sem, seval, *]; done) | omega))); (focus (first | trivial | with_reducible exact rfl | (simp (maxDischargeDepth := 9) -implicitDefEqProofs -dsimp only [go_sem, seval]; done)))))
        refine loop_next _ _ _ _ (2) ?_; (repeat' (first | simp (maxDischargeDepth := 9) -implicitDefEqProofs -dsimp only [go_sem, seval, *] | simp (disch := omega) only [wrap64])) <;> (repeat' refine And.intro ?_ ?_) <;> (first | omega | rfl | assumption | skip)
        all_goals simp
      · have hb : (e != 0) = true := by simpa using h0
        have hv : chk2 g h = e := by unfold chk2; rw [g0, if_neg (by simp), he]
        rw [hv]
        repeat' (first | simp (maxDischargeDepth := 9) -implicitDefEqProofs -dsimp only [go_sem, seval, *] | simp (disch := omega) only [wrap64] | ((with_reducible refine Zt (fun oF hoF hnF hnF' => ?_)); (try simp only [upd_none, ne_eq, not_and] at hoF)) | ((with_reducible apply ACalls.one1); (focus ((first | with_reducible refine A.aig_Check h _ hh) <;> (first | (simp (maxDischargeDepth := 9) -implicitDefEqProofs -dsimp only [go_sem, seval, *]; done) | omega))); (focus (first | trivial | with_reducible exact rfl | (simp (maxDischargeDepth := 9) -implicitDefEqProofs -dsimp only [go_sem, seval]; done)))))
        refine fin_eq ?_
        (repeat' (first | simp (maxDischargeDepth := 9) -implicitDefEqProofs -dsimp only [go_sem, seval, *] | simp (disch := omega) only [wrap64])) <;> (repeat' refine And.intro ?_ ?_) <;> (first | omega | rfl | assumption | skip)
    | 2, _ =>
      have g0 := c1 (by omega)
      have h0 := c2 (by omega)
      have hv : chk2 g h = 0 := by unfold chk2; rw [g0, if_neg (by simp), h0]
      rw [hv]
      clear c1 c2
      repeat' (first | simp (maxDischargeDepth := 9) -implicitDefEqProofs -dsimp only [go_sem, seval, *] | simp (disch := omega) only [wrap64] | ((with_reducible refine Zt (fun oF hoF hnF hnF' => ?_)); (try simp only [upd_none, ne_eq, not_and] at hoF)))
      refine fin_eq ?_
      (repeat' (first | simp (maxDischargeDepth := 9) -implicitDefEqProofs -dsimp only [go_sem, seval, *] | simp (disch := omega) only [wrap64])) <;> (repeat' refine And.intro ?_ ?_) <;> (first | omega | rfl | assumption | skip)
theorem xor0 (a : Int) (h1 : -9223372036854775808 ≤ a) (h2 : a ≤ 9223372036854775807) : IntKind.i64.wrap ((BitVec.ofInt IntKind.i64.bits a ^^^ BitVec.ofInt IntKind.i64.bits 0).toNat : Nat) = a := by
  have e : (BitVec.ofInt 64 a ^^^ BitVec.ofInt 64 0).toNat = (a % 18446744073709551616).toNat := by
    rw [BitVec.toNat_xor, ofInt_nat, ofInt_nat]; simp
  show IntKind.i64.wrap ((BitVec.ofInt 64 a ^^^ BitVec.ofInt 64 0).toNat : Nat) = a
  rw [e]
  simp [IntKind.wrap, IntKind.signed, IntKind.bits]; omega
theorem eq_stands (o : Nat) (to : List Int) (t : Tok) (l : Int) (σ : Sig) (ho : σ o = some (.cells [.slice (to.map encInt) t])) (h : Std to l) :
    ACalls Try.prog 49 [.int .i64 l, .ptr o 0] σ (fun r σ' => r = .ret (.int .i64 (moveL to l)) ∧ σ' = σ) := by
  refine calls_x mixed Try.func49 b49 n49 rfl q49 (by simp) ?_; unfold c49 r49
  obtain ⟨h0, h1, h2, h3, h4⟩ := h
  have hg : to[(l / 2).toNat] = to.getD (l / 2).toNat 0 := by simp [List.getD_eq_getElem?_getD, h1]
  obtain ⟨f, hf⟩ : ∃ f, to.getD (l / 2).toNat 0 = f := ⟨_, rfl⟩
  rw [hf] at hg h3 h4
  by_cases c : l % 2 = 0
  · have hw : moveL to l = f := by unfold moveL; rw [if_pos c, hf]
    rw [hw]
    have hx := xor0 f (by omega) (by omega)
    repeat' (first | simp (maxDischargeDepth := 9) -implicitDefEqProofs -dsimp only [go_sem, seval, *] | simp (disch := omega) only [and1, xor1, shr1'] | ((with_reducible refine Zv ?_ ?_); focus (first | omega | exact rfl)) | ((with_reducible refine Zu ?_ ?_); focus omega))
    refine fin_eq ?_
    (repeat' (first | simp (maxDischargeDepth := 9) -implicitDefEqProofs -dsimp only [go_sem, seval, *] | simp (disch := omega) only [and1, xor1, shr1'])) <;> (repeat' refine And.intro ?_ ?_) <;> (first | omega | rfl | assumption | skip)
  · have c1 : l % 2 = 1 := by omega
    have hw : moveL to l = turn f := by unfold moveL; rw [if_neg c, hf]
    rw [hw]
    repeat' (first | simp (maxDischargeDepth := 9) -implicitDefEqProofs -dsimp only [go_sem, seval, *] | simp (disch := omega) only [and1, xor1, shr1'] | ((with_reducible refine Zv ?_ ?_); focus (first | omega | exact rfl)) | ((with_reducible refine Zu ?_ ?_); focus omega))
    refine fin_eq ?_
    (repeat' (first | simp (maxDischargeDepth := 9) -implicitDefEqProofs -dsimp only [go_sem, seval, *] | simp (disch := omega) only [and1, xor1, shr1'])) <;> (repeat' refine And.intro ?_ ?_) <;> (first | omega | rfl | assumption | skip)
theorem eq_mput (k : Nat) (o p : Nat) (m m' : Aig) (a b x : Int) (σ : Sig) (h4 : σ p = some (.cells (aigL m))) (h5 : σ o = some (.cells [.int .i64 0]))
    (hc : ACalls Try.prog k [encAig m, .int .i64 a, .int .i64 b] σ (fun r σ' => r = .ret (.tup [encAig m', .int .i64 x, .int .i64 0]) ∧ σ' = σ)) :
    ACalls Try.prog 50 [.fn k [] [], .int .i64 a, .int .i64 b, .ptr o 0, .ptr p 0] σ (fun r σ' => r = .ret (.int .i64 x) ∧ σ' = upd σ p (.cells (aigL m'))) := by
  refine calls_x mixed Try.func50 b50 n50 rfl q50 (by simp) ?_; unfold c50 r50
  have ez : ((0 : Int) != 0) = false := by decide
  repeat' (first | simp (maxDischargeDepth := 9) -implicitDefEqProofs -dsimp only [go_sem, seval, List.nil_append, List.append_nil, *] | ((with_reducible refine Zt (fun oF hoF hnF hnF' => ?_)); (try simp only [upd_none, ne_eq, not_and] at hoF)) | ((with_reducible apply ACalls.one1); (focus ((first | with_reducible refine hc) <;> (first | (simp (maxDischargeDepth := 9) -implicitDefEqProofs -dsimp only [go_sem, seval, *]; done) | omega))); (focus (first | trivial | with_reducible exact rfl | (simp (maxDischargeDepth := 9) -implicitDefEqProofs -dsimp only [go_sem, seval]; done)))))
  refine fin_eq ?_
  (repeat' (first | simp (maxDischargeDepth := 9) -implicitDefEqProofs -dsimp only [go_sem, seval, *])) <;> (repeat' refine And.intro ?_ ?_) <;> (first | omega | rfl | assumption | skip)
end Go.Proofs.Ytjichkelfhcbcaa

namespace Go.Proofs.Ytjichkelfhcbcaa
open Abs Fil Fil.Eqv
abbrev noAig : Aig := ⟨0, [], [], []⟩
theorem eq_Miter_arg (g h : Aig) (hg : Wf g) (hh : Wf h) (he : chk2 g h = 0) (h0 : ¬ (g.ins = h.ins ∧ g.flops.length = h.flops.length ∧ g.outs.length = h.outs.length)) (σ : Sig) :
    ACalls Try.prog 18 [encAig g, encAig h] σ (fun r σ' => r = .ret (.tup [encAig noAig, .int .i64 1]) ∧ σ' = σ) := by
  refine calls_x mixed Try.func18 b18 n18 rfl q18 (by simp) ?_; unfold c18 r18
  have ez : ((0 : Int) != 0) = false := by decide
  have hb : (g.ins == h.ins && ((g.flops.length : Int) == h.flops.length && (g.outs.length : Int) == h.outs.length)) = false := by
    rw [← Bool.not_eq_true]
    intro e
    simp only [Bool.and_eq_true, beq_iff_eq] at e
    exact h0 ⟨e.1, by omega, by omega⟩
  repeat' (first | simp (maxDischargeDepth := 9) -implicitDefEqProofs -dsimp only [go_sem, seval, *] | ((with_reducible refine Zt (fun oF hoF hnF hnF' => ?_)); clear hnF hnF'; (try simp only [Zw, ne_eq] at hoF)) | ((with_reducible apply ACalls.one1); (focus ((first | with_reducible refine eq_checked g h _ hg hh | with_reducible refine ACalls.flA (eq_checked g h _ hg hh) ?_) <;> (first | (simp (maxDischargeDepth := 9) -implicitDefEqProofs -dsimp only [go_sem, seval, *]; done) | omega))); (focus (first | trivial | with_reducible exact rfl | (simp (maxDischargeDepth := 9) -implicitDefEqProofs -dsimp only [go_sem, seval]; done)))))
  all_goals (refine fin_eq ?_; (repeat' (first | simp (maxDischargeDepth := 9) -implicitDefEqProofs -dsimp only [go_sem, seval, List.map_nil, *])) <;> (repeat' refine And.intro ?_ ?_) <;> (first | omega | rfl | assumption | skip); done)
theorem each0 (o k : Nat) (first caps : List AV) (a b L : List Int) (x : AObj) (σ : Sig) (h0 : σ o = some x) (hL : L.length = a.length + b.length) (hl : a.length + b.length ≤ 1000000)
    (hc : ∀ i (hi : i < (a ++ b).length) (τ : Sig), τ o = some x → ACalls Try.prog k (first ++ [.int .i64 (a ++ b)[i]] ++ caps) τ (fun r s => r = .ret (.int .i64 (L.getD i 0)) ∧ s = τ)) :
    ACalls Try.prog 41 [.fn k first caps, .slice [.slice (a.map encInt) .no, .slice (b.map encInt) .no] .no] σ (fun r σ' => r = .ret (.slice (L.map encInt) .no) ∧ σ' = σ) := by
  have := eq_each o k first caps a b L (fun _ => x) σ h0 hL hl fun i hi τ hτ => by rw [upd_self hτ]; exact hc i hi τ hτ
  rw [upd_self h0] at this
  exact this
theorem shl1 (a : Int) (h0 : 0 ≤ a) (h : a ≤ 1000) : IntKind.i64.wrap (a * 2 ^ Nat.min 1 64) = 2 * a := by
  have : (2 : Int) ^ Nat.min 1 64 = 2 := by decide
  rw [this, Int.mul_comm]
  exact wrap64 _ (by omega) (by omega)
set_option maxRecDepth 20000 in
set_option maxHeartbeats 4000000 in
theorem eq_Miter (g h : Aig) (t : Two g h) (σ : Sig) :
    ACalls Try.prog 18 [encAig g, encAig h] σ (fun r σ' => r = .ret (.tup [encAig (miterM g h), .int .i64 0]) ∧ σ' = σ) := by
  refine ACalls.virt (callable_of Try.func18 b18 n18) 1 (fun oV1 hoV1 hnV1 hnV1' => ?_); (try simp only [upd_none, ne_eq, not_and] at hoV1); refine calls_x mixed Try.func18 b18 n18 rfl q18 (by simp) ?_; unfold c18 r18
  have ez : ((0 : Int) != 0) = false := by decide
  have hck : chk2 g h = 0 := by unfold chk2; rw [t.gg.check, if_neg (by simp), t.hh.check]
  have hg := t.gg.wf
  have hh := t.hh.wf
  have hins := t.ins
  have hfl := t.flops
  have hou := t.outs
  have hlo := t.gg.lo
  have h8 := t.gg.eight
  have hfew := t.few
  have hb : (g.ins == h.ins && ((g.flops.length : Int) == h.flops.length && (g.outs.length : Int) == h.outs.length)) = true := by
    simp [hins, hfl, hou]
  have e1 : g.ins ≤ h.ins ∧ h.ins ≤ g.ins := by omega
  have e2 : g.flops.length ≤ h.flops.length ∧ h.flops.length ≤ g.flops.length := by omega
  have e3 : g.outs.length ≤ h.outs.length ∧ h.outs.length ≤ g.outs.length := by omega
  have hal : g.ands.length ≤ 1000000 := by omega
  clear hins hfl hou
  repeat' (first | simp (maxDischargeDepth := 9) -implicitDefEqProofs -dsimp only [go_sem, seval, *] | simp (disch := omega) only [wrap64] | ((with_reducible refine Zv ?_ ?_); focus (first | omega | exact rfl)) | ((with_reducible refine Zu ?_ ?_); focus omega) | ((with_reducible refine Zt (fun oF hoF hnF hnF' => ?_)); clear hnF hnF'; (try simp only [Zw, ne_eq] at hoF)) | ((with_reducible apply ACalls.one1); (focus ((first | with_reducible refine eq_checked g h _ hg hh | with_reducible refine sl_cloneGate g.ands _ hal | with_reducible refine ACalls.flA (eq_checked g h _ hg hh) ?_ | with_reducible refine ACalls.flA (sl_cloneGate g.ands _ hal) ?_) <;> (first | (simp (maxDischargeDepth := 9) -implicitDefEqProofs -dsimp only [go_sem, seval, *]; done) | omega))); (focus (first | trivial | with_reducible exact rfl | (simp (maxDischargeDepth := 9) -implicitDefEqProofs -dsimp only [go_sem, seval]; done)))) | ((with_reducible apply id_one0); (focus (intro tS hS; ((first | with_reducible refine eq_checked g h _ hg hh | with_reducible refine sl_cloneGate g.ands _ hal | with_reducible refine ACalls.flA (eq_checked g h _ hg hh) ?_ | with_reducible refine ACalls.flA (sl_cloneGate g.ands _ hal) ?_) <;> (first | (simp (maxDischargeDepth := 9) -implicitDefEqProofs -dsimp only [go_sem, seval, *]; done) | omega | ((with_reducible refine Sub.get hS ?_); simp (maxDischargeDepth := 9) -implicitDefEqProofs -dsimp only [go_sem, seval, *]; done))))); (focus (first | trivial | (simp (maxDischargeDepth := 9) -implicitDefEqProofs -dsimp only [go_sem, seval, *]; done)))) | ((with_reducible apply id_one1); (focus (intro tS hS; ((first | with_reducible refine eq_checked g h _ hg hh | with_reducible refine sl_cloneGate g.ands _ hal | with_reducible refine ACalls.flA (eq_checked g h _ hg hh) ?_ | with_reducible refine ACalls.flA (sl_cloneGate g.ands _ hal) ?_) <;> (first | (simp (maxDischargeDepth := 9) -implicitDefEqProofs -dsimp only [go_sem, seval, *]; done) | omega | ((with_reducible refine Sub.get hS ?_); simp (maxDischargeDepth := 9) -implicitDefEqProofs -dsimp only [go_sem, seval, *]; done))))); (focus (first | trivial | (simp (maxDischargeDepth := 9) -implicitDefEqProofs -dsimp only [go_sem, seval, *]; done)))))
  rename_i o4 h4 o5 h5 oL hL
  obtain ⟨oT, eT⟩ : ∃ x, x = oF := ⟨oF, rfl⟩
  subst eT
  obtain ⟨N, hN⟩ : ∃ N : Nat, (N : Int) = 1 + g.ins + g.flops.length := ⟨(1 + g.ins + g.flops.length).toNat, by omega⟩
  have hN' : 1 + g.ins + g.flops.length = (N : Int) := hN.symm
  have hto : (to0 g).length = N := by simp [to0]; omega
  have htg : ∀ i, i < N → (to0 g).getD i 0 = 2 * (i : Int) := fun i hi => by
    have hi2 : i < (1 + g.ins + g.flops.length).toNat := by omega
    simp [to0, List.getD_eq_getElem?_getD, hi2]
  have hN10 : N ≤ 10 := by omega
  clear hN
  have hr : List.replicate g.flops.length (AV.agg [.int .i64 0, .bool false]) = (List.replicate g.flops.length (⟨0, false⟩ : Flop)).map encFlop := by rw [List.map_replicate]
  refine loop_rule (fun i : Nat => [(62, some (.int .i64 i)), (61, some (.int .i64 N)), (6, some (.ptr oT 0)), (5, some (.ptr o5 0)), (4, some (.ptr o4 0)), (3, some (.cptr (aigL h))), (2, some (.cptr (aigL g)))])
    (fun i => upd (upd (upd (upd σ oV1 (.grow 1 i)) o4 (.cells (aigL (m0 g)))) o5 (.cells [.int .i64 0])) oT (.cells [.slice (((to0 g).take i).map encInt) (.own oV1)])) (fun i => i ≤ N) (fun i => N - i) 0 ?_ ?_
  · (repeat' (first | simp (maxDischargeDepth := 9) -implicitDefEqProofs -dsimp only [go_sem, seval, m0, hr, *] | simp (disch := omega) only [wrap64])) <;> (repeat' refine And.intro ?_ ?_) <;> (first | omega | rfl | assumption | skip)
  · intro i hi
    by_cases hlt : i < N
    · have hlt' : (i : Int) < N := by omega
      have hs : (to0 g).take (i + 1) = (to0 g).take i ++ [2 * (i : Int)] := by
        have hLi : i < (to0 g).length := by omega
        rw [List.take_add_one, List.getElem?_eq_getElem hLi, ← htg i hlt]
        simp [List.getD_eq_getElem?_getD, hLi]
      have hlen : ((to0 g).take i).length = i := by simp; omega
      have hsh := shl1 (i : Int) (by omega) (by omega)
      clear htg hr
      repeat' (first | simp (maxDischargeDepth := 9) -implicitDefEqProofs -dsimp only [go_sem, seval, *] | simp (disch := omega) only [wrap64] | ((with_reducible refine Zv ?_ ?_); focus (first | omega | exact rfl)) | ((with_reducible refine Zu ?_ ?_); focus omega) | ((with_reducible refine Zt (fun oF hoF hnF hnF' => ?_)); clear hnF hnF'; (try simp only [Zw, ne_eq] at hoF)))
      refine loop_next _ _ _ _ (i + 1) ?_; (repeat' (first | simp (maxDischargeDepth := 9) -implicitDefEqProofs -dsimp only [go_sem, seval,  List.map_append, List.map_cons, List.map_nil, *] | simp (disch := omega) only [wrap64])) <;> (repeat' refine And.intro ?_ ?_) <;> (first | omega | rfl | assumption | skip)
    · have e : i = N := by omega
      subst e
      have hlt' : ¬ (i : Int) < i := by omega
      have e0 : (to0 g).take i = to0 g := List.take_of_length_le (by omega)
      have z0 : mAt g h 0 = (m0 g, to0 g) := by simp [mAt]
      clear htg hr hlt
      repeat' (first | simp (maxDischargeDepth := 9) -implicitDefEqProofs -dsimp only [go_sem, seval, *] | simp (disch := omega) only [wrap64] | ((with_reducible refine Zv ?_ ?_); focus (first | omega | exact rfl)) | ((with_reducible refine Zu ?_ ?_); focus omega) | ((with_reducible refine Zt (fun oF hoF hnF hnF' => ?_)); clear hnF hnF'; (try simp only [Zw, ne_eq] at hoF)))
      refine loop_rule (fun j : Nat => [(76, some (.int .i64 j)), (75, some (.int .i64 h.ands.length)), (74, some (.slice (h.ands.map encGate) .no)), (6, some (.ptr oT 0)), (9, some (.fn 50 [] [.ptr o5 0, .ptr o4 0])), (8, some (.fn 49 [] [.ptr oT 0])), (5, some (.ptr o5 0)), (4, some (.ptr o4 0)), (3, some (.cptr (aigL h))), (2, some (.cptr (aigL g)))])
        (fun j => upd (upd (upd (upd σ oV1 (.grow 1 (i + j))) o4 (.cells (aigL (mAt g h j).1))) o5 (.cells [.int .i64 0])) oT (.cells [.slice ((mAt g h j).2.map encInt) (.own oV1)])) (fun j => j ≤ h.ands.length) (fun j => h.ands.length - j) 0 ?_ ?_
      · have z1 : (mAt g h 0).1 = m0 g := by rw [z0]
        have z2 : (mAt g h 0).2 = to0 g := by rw [z0]
        (repeat' (first | simp (maxDischargeDepth := 9) -implicitDefEqProofs -dsimp only [go_sem, seval, z1, z2, *] | simp (disch := omega) only [wrap64])) <;> (repeat' refine And.intro ?_ ?_) <;> (first | omega | rfl | assumption | skip)
      · intro j hj
        by_cases hlt : j < h.ands.length
        · have hlj : (j : Int) < h.ands.length := by omega
          obtain ⟨y, s1, s2, s3, s4, s5, s6, s7, s8⟩ := m_step t hlt
          have hl2 := (mAt_ok t (zs t.gg) hj).2
          rw [zeros] at hl2
          have hl3 : (mAt g h j).2.length = i + j := by omega
          obtain ⟨⟨m, to⟩, hb'⟩ : ∃ s, mAt g h j = s := ⟨_, rfl⟩
          obtain ⟨⟨m', to'⟩, hc⟩ : ∃ s, mAt g h (j + 1) = s := ⟨_, rfl⟩
          rw [hb'] at s1 s2 s3 s4 s5 s6 s7 s8 hl3 ⊢
          rw [hc] at s6 s7
          simp only at s1 s2 s3 s4 s5 s6 s7 s8 hl3
          subst s7
          have hA := fun τ => A.aig_And m _ _ τ s3 s4 s5
          rw [s6] at hA
          have f1 := fun τ hτ => eq_stands oT to (.own oV1) h.ands[j].1 τ hτ s1
          have f2 := fun τ hτ => eq_stands oT to (.own oV1) h.ands[j].2 τ hτ s2
          obtain ⟨p, hp⟩ : ∃ p, moveL to h.ands[j].1 = p := ⟨_, rfl⟩
          obtain ⟨q, hq⟩ : ∃ q, moveL to h.ands[j].2 = q := ⟨_, rfl⟩
          rw [hp] at hA f1
          rw [hq] at hA f2
          clear hb' hp hq s1 s2 s3 s4 s5 s6 hl2 z0 e0
          repeat' (first | simp (maxDischargeDepth := 9) -implicitDefEqProofs -dsimp only [go_sem, seval, *] | simp (disch := omega) only [wrap64] | ((with_reducible refine Zv ?_ ?_); focus (first | omega | exact rfl)) | ((with_reducible refine Zu ?_ ?_); focus omega) | ((with_reducible refine Zt (fun oF hoF hnF hnF' => ?_)); clear hnF hnF'; (try simp only [Zw, ne_eq] at hoF)) | ((with_reducible apply ACalls.one1); (focus ((first | with_reducible refine f1 _ ?_ | with_reducible refine f2 _ ?_ | with_reducible refine eq_mput 51 o5 o4 m m' p q y _ ?_ ?_ (hA _) | with_reducible refine ACalls.flA (f1 _ ?_) ?_ | with_reducible refine ACalls.flA (f2 _ ?_) ?_ | with_reducible refine ACalls.flA (eq_mput 51 o5 o4 m m' p q y _ ?_ ?_ (hA _)) ?_) <;> (first | (simp (maxDischargeDepth := 9) -implicitDefEqProofs -dsimp only [go_sem, seval, *]; done) | omega))); (focus (first | trivial | with_reducible exact rfl | (simp (maxDischargeDepth := 9) -implicitDefEqProofs -dsimp only [go_sem, seval]; done)))) | ((with_reducible apply id_one0); (focus (intro tS hS; ((first | with_reducible refine f1 _ ?_ | with_reducible refine f2 _ ?_ | with_reducible refine eq_mput 51 o5 o4 m m' p q y _ ?_ ?_ (hA _) | with_reducible refine ACalls.flA (f1 _ ?_) ?_ | with_reducible refine ACalls.flA (f2 _ ?_) ?_ | with_reducible refine ACalls.flA (eq_mput 51 o5 o4 m m' p q y _ ?_ ?_ (hA _)) ?_) <;> (first | (simp (maxDischargeDepth := 9) -implicitDefEqProofs -dsimp only [go_sem, seval, *]; done) | omega | ((with_reducible refine Sub.get hS ?_); simp (maxDischargeDepth := 9) -implicitDefEqProofs -dsimp only [go_sem, seval, *]; done))))); (focus (first | trivial | (simp (maxDischargeDepth := 9) -implicitDefEqProofs -dsimp only [go_sem, seval, *]; done)))) | ((with_reducible apply id_one1); (focus (intro tS hS; ((first | with_reducible refine f1 _ ?_ | with_reducible refine f2 _ ?_ | with_reducible refine eq_mput 51 o5 o4 m m' p q y _ ?_ ?_ (hA _) | with_reducible refine ACalls.flA (f1 _ ?_) ?_ | with_reducible refine ACalls.flA (f2 _ ?_) ?_ | with_reducible refine ACalls.flA (eq_mput 51 o5 o4 m m' p q y _ ?_ ?_ (hA _)) ?_) <;> (first | (simp (maxDischargeDepth := 9) -implicitDefEqProofs -dsimp only [go_sem, seval, *]; done) | omega | ((with_reducible refine Sub.get hS ?_); simp (maxDischargeDepth := 9) -implicitDefEqProofs -dsimp only [go_sem, seval, *]; done))))); (focus (first | trivial | (simp (maxDischargeDepth := 9) -implicitDefEqProofs -dsimp only [go_sem, seval, *]; done)))))
          refine loop_next _ _ _ _ (j + 1) ?_; (repeat' (first | simp (maxDischargeDepth := 9) -implicitDefEqProofs -dsimp only [go_sem, seval,  List.map_append, List.map_cons, List.map_nil, *] | simp (disch := omega) only [wrap64])) <;> (repeat' refine And.intro ?_ ?_) <;> (first | omega | rfl | assumption | skip)
        · have e : j = h.ands.length := by omega
          subst e
          have hlj : ¬ (h.ands.length : Int) < h.ands.length := by omega
          rw [m_all]
          obtain ⟨bl, bn⟩ := body_lits t
          have dst := fun k hk => d_step t (i := k) hk
          have hpl := t.pairs
          have hfl1 := hg.flops
          have hfl2 := hh.flops
          have hou1 := t.gg.outs
          have hou2 := t.hh.outs
          have hcat := fun τ => sl_concat2 g.outs (g.flops.map (·.next)) τ (by rw [List.length_map]; omega)
          obtain ⟨mine, hmine⟩ : ∃ l, g.outs ++ g.flops.map (·.next) = l := ⟨_, rfl⟩
          have hml : mine.length = (pairsM g h).length := by rw [← hmine, hpl]; simp
          have hth : ((lits h).map (moveL (bodyM g h).2)).length = (pairsM g h).length := by
            rw [hpl, List.length_map, lits_len]; omega
          have hpm : ∀ k (hk : k < (pairsM g h).length), (pairsM g h)[k] = (mine[k], ((lits h).map (moveL (bodyM g h).2))[k]) := fun k hk => by
            subst hmine
            simp [pairsM, lits]
          rw [hmine] at hcat
          have hE := fun τ hτ => each0 oT 49 [] [.ptr oT 0] h.outs (h.flops.map (·.next)) ((lits h).map (moveL (bodyM g h).2)) (.cells [.slice ((bodyM g h).2.map encInt) (.own oV1)]) τ hτ (by simp [lits]) (by rw [List.length_map]; omega) (fun k hk τ hτ => by
            have hk' : k < (lits h).length := hk
            have hs := eq_stands oT (bodyM g h).2 (.own oV1) (lits h)[k] τ hτ (bl _ (List.getElem_mem hk'))
            have e : ((lits h).map (moveL (bodyM g h).2)).getD k 0 = moveL (bodyM g h).2 (lits h)[k] := by
              simp [List.getD_eq_getElem?_getD, hk']
            rw [e]; exact hs)
          have hd0 : dAt g h 0 = ((bodyM g h).1, 0) := rfl
          have hda := @d_all g h
          obtain ⟨th, hthd⟩ : ∃ l, (lits h).map (moveL (bodyM g h).2) = l := ⟨_, rfl⟩
          rw [hthd] at hE hth
          simp only [hthd] at hpm
          obtain ⟨K, hK⟩ : ∃ K, (pairsM g h).length = K := ⟨_, rfl⟩
          have hK' : K ≤ 40 := by omega
          have hml1 : (mine.length ≤ K ∧ K ≤ mine.length) ∧ (th.length ≤ K ∧ K ≤ th.length) := by omega
          have hml2 : (mine.length : Int) = K := by omega
          obtain ⟨hml1, hml3⟩ := hml1
          clear bl hlt z0 e0 hj hal hpl
          repeat' (first | simp (maxDischargeDepth := 9) -implicitDefEqProofs -dsimp only [go_sem, seval, *] | simp (disch := omega) only [wrap64] | ((with_reducible refine Zv ?_ ?_); focus (first | omega | exact rfl)) | ((with_reducible refine Zu ?_ ?_); focus omega) | ((with_reducible refine Zt (fun oF hoF hnF hnF' => ?_)); clear hnF hnF'; (try simp only [Zw, ne_eq] at hoF)) | ((with_reducible apply ACalls.one1); (focus ((first | with_reducible refine eq_nexts g _ hfl1 | with_reducible refine eq_nexts h _ hfl2 | with_reducible refine hcat _ | with_reducible refine hE _ ?_ | with_reducible refine ACalls.flA (eq_nexts g _ hfl1) ?_ | with_reducible refine ACalls.flA (eq_nexts h _ hfl2) ?_ | with_reducible refine ACalls.flA (hcat _) ?_ | with_reducible refine ACalls.flA (hE _ ?_) ?_) <;> (first | (simp (maxDischargeDepth := 9) -implicitDefEqProofs -dsimp only [go_sem, seval, *]; done) | omega))); (focus (first | trivial | with_reducible exact rfl | (simp (maxDischargeDepth := 9) -implicitDefEqProofs -dsimp only [go_sem, seval]; done)))) | ((with_reducible apply id_one0); (focus (intro tS hS; ((first | with_reducible refine eq_nexts g _ hfl1 | with_reducible refine eq_nexts h _ hfl2 | with_reducible refine hcat _ | with_reducible refine hE _ ?_ | with_reducible refine ACalls.flA (eq_nexts g _ hfl1) ?_ | with_reducible refine ACalls.flA (eq_nexts h _ hfl2) ?_ | with_reducible refine ACalls.flA (hcat _) ?_ | with_reducible refine ACalls.flA (hE _ ?_) ?_) <;> (first | (simp (maxDischargeDepth := 9) -implicitDefEqProofs -dsimp only [go_sem, seval, *]; done) | omega | ((with_reducible refine Sub.get hS ?_); simp (maxDischargeDepth := 9) -implicitDefEqProofs -dsimp only [go_sem, seval, *]; done))))); (focus (first | trivial | (simp (maxDischargeDepth := 9) -implicitDefEqProofs -dsimp only [go_sem, seval, *]; done)))) | ((with_reducible apply id_one1); (focus (intro tS hS; ((first | with_reducible refine eq_nexts g _ hfl1 | with_reducible refine eq_nexts h _ hfl2 | with_reducible refine hcat _ | with_reducible refine hE _ ?_ | with_reducible refine ACalls.flA (eq_nexts g _ hfl1) ?_ | with_reducible refine ACalls.flA (eq_nexts h _ hfl2) ?_ | with_reducible refine ACalls.flA (hcat _) ?_ | with_reducible refine ACalls.flA (hE _ ?_) ?_) <;> (first | (simp (maxDischargeDepth := 9) -implicitDefEqProofs -dsimp only [go_sem, seval, *]; done) | omega | ((with_reducible refine Sub.get hS ?_); simp (maxDischargeDepth := 9) -implicitDefEqProofs -dsimp only [go_sem, seval, *]; done))))); (focus (first | trivial | (simp (maxDischargeDepth := 9) -implicitDefEqProofs -dsimp only [go_sem, seval, *]; done)))))
          have z1 : (dAt g h 0).1 = (bodyM g h).1 := rfl
          have z2 : (dAt g h 0).2 = 0 := rfl
          clear hcat hE
          refine loop_rule (fun k : Nat => [(109, some (.int .i64 k)), (108, some (.int .i64 K)), (107, some (.slice (mine.map encInt) .no)), (9, some (.fn 50 [] [.ptr o5 0, .ptr o4 0])), (14, some (.int .i64 (dAt g h k).2)), (13, some (.slice (th.map encInt) .no)), (5, some (.ptr o5 0)), (4, some (.ptr o4 0))])
            (fun k => upd (upd σ o4 (.cells (aigL (dAt g h k).1))) o5 (.cells [.int .i64 0])) (fun k => k ≤ K) (fun k => K - k) 0 ?_ ?_
          · (repeat' (first | simp (maxDischargeDepth := 9) -implicitDefEqProofs -dsimp only [go_sem, seval, z1, z2, *] | simp (disch := omega) only [wrap64])) <;> (repeat' refine And.intro ?_ ?_) <;> (first | omega | rfl | assumption | skip)
          · intro k hk
            by_cases hlt : k < K
            · have hlk : (k : Int) < K := by omega
              obtain ⟨m, d, s1, s2, s3, s4, s5, s6, s7, s8⟩ := dst k (by omega)
              rw [hpm k (by omega)] at s2 s3 s4
              simp only at s2 s3 s4
              have hlm : k < mine.length := by omega
              have hlh : k < th.length := by omega
              obtain ⟨⟨b, l⟩, hb'⟩ : ∃ s, dAt g h k = s := ⟨_, rfl⟩
              obtain ⟨⟨m', l'⟩, hc⟩ : ∃ s, dAt g h (k + 1) = s := ⟨_, rfl⟩
              rw [hb'] at s1 s4 s6 s8 ⊢
              rw [hc] at s8
              simp only at s1 s4 s6 s8
              have hX := fun τ => A.aig_Xor b _ _ τ s1 s2 s3
              have hO := fun τ => A.aig_Or m _ _ τ s5 s6 s7
              rw [s4] at hX
              rw [s8] at hO
              obtain ⟨u, hu⟩ : ∃ u, mine[k] = u := ⟨_, rfl⟩
              obtain ⟨v, hv⟩ : ∃ v, th[k] = v := ⟨_, rfl⟩
              rw [hu, hv] at hX
              clear dst hpm s1 s2 s3 s4 s5 s6 s7 s8 hb'
              repeat' (first | simp (maxDischargeDepth := 9) -implicitDefEqProofs -dsimp only [go_sem, seval, *] | simp (disch := omega) only [wrap64] | ((with_reducible refine Zv ?_ ?_); focus (first | omega | exact rfl)) | ((with_reducible refine Zu ?_ ?_); focus omega) | ((with_reducible refine Zt (fun oF hoF hnF hnF' => ?_)); clear hnF hnF'; (try simp only [Zw, ne_eq] at hoF)) | ((with_reducible apply ACalls.one1); (focus ((first | with_reducible refine eq_mput 54 o5 o4 b m u v d _ ?_ ?_ (hX _) | with_reducible refine eq_mput 53 o5 o4 m m' l d l' _ ?_ ?_ (hO _) | with_reducible refine ACalls.flA (eq_mput 54 o5 o4 b m u v d _ ?_ ?_ (hX _)) ?_ | with_reducible refine ACalls.flA (eq_mput 53 o5 o4 m m' l d l' _ ?_ ?_ (hO _)) ?_) <;> (first | (simp (maxDischargeDepth := 9) -implicitDefEqProofs -dsimp only [go_sem, seval, *]; done) | omega))); (focus (first | trivial | with_reducible exact rfl | (simp (maxDischargeDepth := 9) -implicitDefEqProofs -dsimp only [go_sem, seval]; done)))))
              refine loop_next _ _ _ _ (k + 1) ?_; (repeat' (first | simp (maxDischargeDepth := 9) -implicitDefEqProofs -dsimp only [go_sem, seval, *] | simp (disch := omega) only [wrap64])) <;> (repeat' refine And.intro ?_ ?_) <;> (first | omega | rfl | assumption | skip)
            · have e : k = K := by omega
              subst e
              have hlk : ¬ (k : Int) < k := by omega
              rw [hK] at hda
              obtain ⟨⟨b, l⟩, hb'⟩ : ∃ s, dAt g h k = s := ⟨_, rfl⟩
              have hM : miterM g h = { b with outs := [l] } := by unfold miterM; rw [← hda, hb']
              rw [hM]
              clear dst hpm hda
              repeat' (first | simp (maxDischargeDepth := 9) -implicitDefEqProofs -dsimp only [go_sem, seval, *] | simp (disch := omega) only [wrap64] | ((with_reducible refine Zv ?_ ?_); focus (first | omega | exact rfl)) | ((with_reducible refine Zu ?_ ?_); focus omega) | ((with_reducible refine Zt (fun oF hoF hnF hnF' => ?_)); clear hnF hnF'; (try simp only [Zw, ne_eq] at hoF)))
              refine fin_eq ?_
              (repeat' (first | simp (maxDischargeDepth := 9) -implicitDefEqProofs -dsimp only [go_sem, seval, List.map_cons, List.map_nil, *] | simp (disch := omega) only [wrap64])) <;> (repeat' refine And.intro ?_ ?_) <;> (first | omega | rfl | assumption | skip)
end Go.Proofs.Ytjichkelfhcbcaa

namespace Fil.Eqv
open Abs
def firstNe : List (List Bool) → List (List Bool) → Int → Int
  | x :: a, y :: b, i => if x = y then firstNe a b (i + 1) else i
  | _, _, _ => -1
theorem first_at : ∀ (a b : List (List Bool)) (i : Int) (k : Nat) (ha : k < a.length) (hb : k < b.length), (∀ j (h : j < k), a[j] = b[j]) → a[k] ≠ b[k] → firstNe a b i = i + k
  | x :: a, y :: b, i, 0, _, _, _, hn => by
    simp only [List.getElem_cons_zero] at hn
    simp [firstNe, hn]
  | x :: a, y :: b, i, k + 1, ha, hb, he, hn => by
    have h0 : x = y := he 0 (by omega)
    simp only [firstNe, if_pos h0]
    rw [first_at a b (i + 1) k (by simpa using ha) (by simpa using hb) (fun j hj => by simpa using he (j + 1) (by omega)) (by simpa using hn)]
    omega
theorem first_no : ∀ (a b : List (List Bool)) (i : Int) (hl : a.length ≤ b.length), (∀ j (h : j < a.length), a[j] = b[j]) → firstNe a b i = -1
  | [], b, i, _, _ => by cases b <;> rfl
  | x :: a, y :: b, i, hl, he => by
    have h0 : x = y := he 0 (by simp)
    simp only [firstNe, if_pos h0]
    exact first_no a b (i + 1) (by simpa using hl) fun j hj => by
      have := he (j + 1) (by simp only [List.length_cons]; omega)
      simpa only [List.getElem_cons_succ] using this
def traceS (g h : Aig) (ins : List (List Bool)) : Int × Int := if (g.Run ins).2 ≠ 0 then (0, (g.Run ins).2) else (firstNe (g.Run ins).1 (h.Run ins).1 0, 0)
end Fil.Eqv

namespace Go.Proofs.Ytjichkelfhcbcaa
open Abs Fil Fil.Eqv
open Bd (D encB encF)
theorem eq_Same_arg (g h : Aig) (hg : Wf g) (hh : Wf h) (he : chk2 g h = 0) (h0 : ¬ (g.ins = h.ins ∧ g.flops.length = h.flops.length ∧ g.outs.length = h.outs.length)) (σ : Sig) :
    ACalls Try.prog 23 [encAig g, encAig h] σ (fun r σ' => r = .ret (.tup [.bool false, .slice [] .no, .slice [] .no, .int .i64 1]) ∧ σ' = σ) := by
  refine calls_x mixed Try.func23 b23 n23 rfl q23 (by simp) ?_; unfold c23 r23
  have hb : ((1 : Int) != 0) = true := by decide
  repeat' (first | simp (maxDischargeDepth := 9) -implicitDefEqProofs -dsimp only [go_sem, seval, List.map_nil, *] | ((with_reducible refine Zt (fun oF hoF hnF hnF' => ?_)); clear hnF hnF'; (try simp only [Zw, ne_eq] at hoF)) | ((with_reducible apply ACalls.one1); (focus ((first | with_reducible refine eq_Miter_arg g h hg hh he h0 _) <;> (first | (simp (maxDischargeDepth := 9) -implicitDefEqProofs -dsimp only [go_sem, seval, *]; done) | omega))); (focus (first | trivial | with_reducible exact rfl | (simp (maxDischargeDepth := 9) -implicitDefEqProofs -dsimp only [go_sem, seval]; done)))))
  refine fin_eq ?_
  (repeat' (first | simp (maxDischargeDepth := 9) -implicitDefEqProofs -dsimp only [go_sem, seval, *])) <;> (repeat' refine And.intro ?_ ?_) <;> (first | omega | rfl | assumption | skip)
theorem eq_Same (g h : Aig) (t : Two g h) (σ : Sig) :
    ACalls Try.prog 23 [encAig g, encAig h] σ (fun r σ' => r = .ret (.tup [.bool (sameS g h).1, .slice ((sameS g h).2.1.map encBool) .no, .slice ((sameS g h).2.2.map encBool) .no, .int .i64 0]) ∧ σ' = σ) := by
  refine calls_x mixed Try.func23 b23 n23 rfl q23 (by simp) ?_; unfold c23 r23
  have ez : ((0 : Int) != 0) = false := by decide
  have hm := (miter_ok t).1
  have hfl : (forksS (miterM g h)).2.length = 1 + g.flops.length := by
    rw [forks_len, (miter_ok t).2.2.2.1, (miter_ok t).2.2.1]; simp
  have hlo := t.gg.lo
  have h8 := t.gg.eight
  have hn := node_ok t (w := List.replicate (g.ins + g.flops.length).toNat false) (by rw [zeros]; omega)
  have hroom := (hn.1.room (by omega)).2.2.2
  have hM := fun τ => eq_Miter g h t τ
  have hF := fun τ => eq_Forks (miterM g h) hm τ
  obtain ⟨l, hl⟩ : ∃ l, (forksS (miterM g h)).2 = l := ⟨_, rfl⟩
  obtain ⟨b, hb⟩ : ∃ b, (forksS (miterM g h)).1 = b := ⟨_, rfl⟩
  have hnode : nodeS g h = (b, l.getD 0 0) := by unfold nodeS; rw [hl, hb]
  rw [hl] at hfl
  rw [hl, hb] at hF
  rw [hnode] at hroom
  have hl0 : 0 < l.length := by omega
  have hg0 : l[0] = l.getD 0 0 := by simp [List.getD_eq_getElem?_getD, hl0]
  have hll : l.length ≤ 10 := by omega
  obtain ⟨x, hx⟩ : ∃ x, l.getD 0 0 = x := ⟨_, rfl⟩
  rw [hx] at hnode hg0
  have hO := fun τ => B.bdd_One b x τ hroom
  by_cases hy : x = 0
  · have hs : sameS g h = (true, [], []) := by unfold sameS; rw [hnode, if_pos hy]
    have h1 := (same_yes t (by rw [hnode]; exact hy)).1
    rw [hnode] at h1
    simp only at h1
    rw [h1] at hO
    rw [hs]
    clear h1 hs hn hm hl hb hnode hx hfl
    repeat' (first | simp (maxDischargeDepth := 9) -implicitDefEqProofs -dsimp only [go_sem, seval, List.map_nil, *] | ((with_reducible refine Zv ?_ ?_); focus (first | omega | exact rfl)) | ((with_reducible refine Zu ?_ ?_); focus omega) | ((with_reducible refine Zt (fun oF hoF hnF hnF' => ?_)); clear hnF hnF'; (try simp only [Zw, ne_eq] at hoF)) | ((with_reducible apply ACalls.one1); (focus ((first | with_reducible refine hM _ | with_reducible refine hF _ | with_reducible refine hO _ | with_reducible refine ACalls.flA (hM _) ?_ | with_reducible refine ACalls.flA (hF _) ?_ | with_reducible refine ACalls.flA (hO _) ?_) <;> (first | (simp (maxDischargeDepth := 9) -implicitDefEqProofs -dsimp only [go_sem, seval, *]; done) | omega))); (focus (first | trivial | with_reducible exact rfl | (simp (maxDischargeDepth := 9) -implicitDefEqProofs -dsimp only [go_sem, seval]; done)))) | ((with_reducible apply id_one0); (focus (intro tS hS; ((first | with_reducible refine hM _ | with_reducible refine hF _ | with_reducible refine hO _ | with_reducible refine ACalls.flA (hM _) ?_ | with_reducible refine ACalls.flA (hF _) ?_ | with_reducible refine ACalls.flA (hO _) ?_) <;> (first | (simp (maxDischargeDepth := 9) -implicitDefEqProofs -dsimp only [go_sem, seval, *]; done) | omega | ((with_reducible refine Sub.get hS ?_); simp (maxDischargeDepth := 9) -implicitDefEqProofs -dsimp only [go_sem, seval, *]; done))))); (focus (first | trivial | (simp (maxDischargeDepth := 9) -implicitDefEqProofs -dsimp only [go_sem, seval, *]; done)))))
    refine fin_eq ?_
    (repeat' (first | simp (maxDischargeDepth := 9) -implicitDefEqProofs -dsimp only [go_sem, seval, *])) <;> (repeat' refine And.intro ?_ ?_) <;> (first | omega | rfl | assumption | skip)
  · obtain ⟨w, h1, h2, _⟩ := same_no t (by rw [hnode]; exact hy)
    have hs : sameS g h = (false, w.take g.ins.toNat, w.drop g.ins.toNat) := by
      unfold sameS
      rw [hnode, if_neg hy]
      rw [hnode] at h1
      simp only at h1 ⊢
      rw [h1]
    rw [hnode] at h1
    simp only at h1
    rw [h1] at hO
    rw [hs]
    have hw : g.ins ≤ w.length := by omega
    have m1 : List.take g.ins.toNat (w.map encBool) = (w.take g.ins.toNat).map encBool := List.map_take.symm
    have m2 : List.drop g.ins.toNat (w.map encBool) = (w.drop g.ins.toNat).map encBool := List.map_drop.symm
    clear h1 hs hn hm hl hb hnode hx hfl
    repeat' (first | simp (maxDischargeDepth := 9) -implicitDefEqProofs -dsimp only [go_sem, seval, *] | ((with_reducible refine Zv ?_ ?_); focus (first | omega | exact rfl)) | ((with_reducible refine Zu ?_ ?_); focus omega) | ((with_reducible refine Zt (fun oF hoF hnF hnF' => ?_)); clear hnF hnF'; (try simp only [Zw, ne_eq] at hoF)) | ((with_reducible apply ACalls.one1); (focus ((first | with_reducible refine hM _ | with_reducible refine hF _ | with_reducible refine hO _ | with_reducible refine ACalls.flA (hM _) ?_ | with_reducible refine ACalls.flA (hF _) ?_ | with_reducible refine ACalls.flA (hO _) ?_) <;> (first | (simp (maxDischargeDepth := 9) -implicitDefEqProofs -dsimp only [go_sem, seval, *]; done) | omega))); (focus (first | trivial | with_reducible exact rfl | (simp (maxDischargeDepth := 9) -implicitDefEqProofs -dsimp only [go_sem, seval]; done)))) | ((with_reducible apply id_one0); (focus (intro tS hS; ((first | with_reducible refine hM _ | with_reducible refine hF _ | with_reducible refine hO _ | with_reducible refine ACalls.flA (hM _) ?_ | with_reducible refine ACalls.flA (hF _) ?_ | with_reducible refine ACalls.flA (hO _) ?_) <;> (first | (simp (maxDischargeDepth := 9) -implicitDefEqProofs -dsimp only [go_sem, seval, *]; done) | omega | ((with_reducible refine Sub.get hS ?_); simp (maxDischargeDepth := 9) -implicitDefEqProofs -dsimp only [go_sem, seval, *]; done))))); (focus (first | trivial | (simp (maxDischargeDepth := 9) -implicitDefEqProofs -dsimp only [go_sem, seval, *]; done)))))
    refine fin_eq ?_
    (repeat' (first | simp (maxDischargeDepth := 9) -implicitDefEqProofs -dsimp only [go_sem, seval, *])) <;> (repeat' refine And.intro ?_ ?_) <;> (first | omega | rfl | assumption | skip)
theorem sl_equalBool (a b : List Bool) (σ : Sig) (ha : a.length ≤ 1000000000) :
    ACalls Try.prog 60 [.slice (a.map encBool) .no, .slice (b.map encBool) .no] σ (fun r σ' => r = .ret (.bool (decide (a = b))) ∧ σ' = σ) := by
  refine calls_x mixed Try.func60 b60 n60 rfl q60 (by simp) ?_; unfold c60 r60
  by_cases hl : a.length = b.length
  · have hlb : ((a.length : Int) != b.length) = false := by simp [hl]
    have hl' := And.intro (Nat.le_of_eq hl) (Nat.le_of_eq hl.symm)
    clear hl
    repeat' (first | simp (maxDischargeDepth := 9) -implicitDefEqProofs -dsimp only [go_sem, seval, *] | simp (disch := omega) only [wrap64] | ((with_reducible refine Zu ?_ ?_); focus omega))
    refine loop_rule (fun i : Nat => [(13, some (.int .i64 i)), (12, some (.int .i64 a.length)), (0, some (.slice (a.map encBool) .no)), (1, some (.slice (b.map encBool) .no))]) (fun _ => σ) (fun i => i ≤ a.length ∧ ∀ j, (hj : j < a.length) → j < i → a[j] = b[j]) (fun i => a.length - i) 0 ?_ ?_
    · (repeat' (first | simp (maxDischargeDepth := 9) -implicitDefEqProofs -dsimp only [go_sem, seval, *] | simp (disch := omega) only [wrap64])) <;> (repeat' refine And.intro ?_ ?_) <;> (first | omega | rfl | assumption | skip)
    · rintro i ⟨hi, hok⟩
      by_cases hlt : i < a.length
      · have hlt' : i < b.length := by omega
        obtain ⟨x, hx⟩ : ∃ x, a[i] = x := ⟨_, rfl⟩
        obtain ⟨y, hy⟩ : ∃ y, b[i] = y := ⟨_, rfl⟩
        by_cases he : x = y
        · subst he
          have hok' : ∀ j : Nat, (hj : j < a.length) → j < i + 1 → a[j] = b[j] := fun j hj hji => by
            rcases Nat.lt_or_ge j i with c | c
            · exact hok j hj c
            · obtain rfl : j = i := by omega
              rw [hx, hy]
          clear hok
          repeat' (first | simp (maxDischargeDepth := 9) -implicitDefEqProofs -dsimp only [go_sem, seval, *] | simp (disch := omega) only [wrap64] | ((with_reducible refine Zu ?_ ?_); focus omega))
          refine loop_next _ _ _ _ (i + 1) ⟨?_, ?_, ⟨by omega, hok'⟩, by omega⟩
          · (repeat' (first | simp (maxDischargeDepth := 9) -implicitDefEqProofs -dsimp only [go_sem, seval, *] | simp (disch := omega) only [wrap64])) <;> (repeat' refine And.intro ?_ ?_) <;> (first | omega | rfl | assumption | skip)
          · (repeat' (first | simp (maxDischargeDepth := 9) -implicitDefEqProofs -dsimp only [go_sem, seval, *] | simp (disch := omega) only [wrap64])) <;> (repeat' refine And.intro ?_ ?_) <;> (first | omega | rfl | assumption | skip)
        · have hv : decide (a = b) = false := by simp; intro e; exact he (by rw [← hx, ← hy]; simp only [e])
          have hb : (x == y) = false := by simpa using he
          rw [hv]
          clear hok
          repeat' (first | simp (maxDischargeDepth := 9) -implicitDefEqProofs -dsimp only [go_sem, seval, *] | simp (disch := omega) only [wrap64] | ((with_reducible refine Zu ?_ ?_); focus omega))
          refine fin_eq ?_
          (repeat' (first | simp (maxDischargeDepth := 9) -implicitDefEqProofs -dsimp only [go_sem, seval, *] | simp (disch := omega) only [wrap64])) <;> (repeat' refine And.intro ?_ ?_) <;> (first | omega | rfl | assumption | skip)
      · have hv : decide (a = b) = true := by simp; exact List.ext_getElem (by omega) fun j hj _ => hok j hj (by omega)
        rw [hv]
        clear hok
        repeat' (first | simp (maxDischargeDepth := 9) -implicitDefEqProofs -dsimp only [go_sem, seval, *] | simp (disch := omega) only [wrap64] | ((with_reducible refine Zu ?_ ?_); focus omega))
        refine fin_eq ?_
        (repeat' (first | simp (maxDischargeDepth := 9) -implicitDefEqProofs -dsimp only [go_sem, seval, *] | simp (disch := omega) only [wrap64])) <;> (repeat' refine And.intro ?_ ?_) <;> (first | omega | rfl | assumption | skip)
  · have hb : ((a.length : Int) != b.length) = true := by simp; omega
    have hv : decide (a = b) = false := by simp; intro e; exact hl (by rw [e])
    rw [hv]
    repeat' (first | simp (maxDischargeDepth := 9) -implicitDefEqProofs -dsimp only [go_sem, seval, *] | simp (disch := omega) only [wrap64] | ((with_reducible refine Zu ?_ ?_); focus omega))
    refine fin_eq ?_
    (repeat' (first | simp (maxDischargeDepth := 9) -implicitDefEqProofs -dsimp only [go_sem, seval, *] | simp (disch := omega) only [wrap64])) <;> (repeat' refine And.intro ?_ ?_) <;> (first | omega | rfl | assumption | skip)
theorem eq_Trace (g h : Aig) (ins : List (List Bool)) (σ : Sig) (hg : Wf g) (hh : Wf h) (hi : ins.length ≤ 1000000) (he : chk2 g h = 0) (h1 : g.ins = h.ins) (h2 : g.outs.length = h.outs.length)
    (hlen : (g.Run ins).2 = 0 → (g.Run ins).1.length ≤ (h.Run ins).1.length) (hal : (g.Run ins).1.length ≤ 1000000) (har : ∀ x ∈ (g.Run ins).1, x.length ≤ 1000000000) :
    ACalls Try.prog 20 [encAig g, encAig h, .slice (ins.map (encRow encBool)) .no] σ (fun r σ' => r = .ret (.tup [.int .i64 (traceS g h ins).1, .int .i64 (traceS g h ins).2]) ∧ σ' = σ) := by
  refine calls_x mixed Try.func20 b20 n20 rfl q20 (by simp) ?_; unfold c20 r20
  have ez : ((0 : Int) != 0) = false := by decide
  have hb1 : (g.ins != h.ins) = false := by simpa using h1
  have hb2 : ((g.outs.length : Int) != h.outs.length) = false := by simp [h2]
  have c1 := fun τ => A.aig_Run g ins τ hg hi
  have c2 := fun τ => A.aig_Run h ins τ hh hi
  obtain ⟨⟨a, e1⟩, ha⟩ : ∃ p, g.Run ins = p := ⟨_, rfl⟩
  obtain ⟨⟨b, e2⟩, hb⟩ : ∃ p, h.Run ins = p := ⟨_, rfl⟩
  have htr : traceS g h ins = if e1 ≠ 0 then (0, e1) else (firstNe a b 0, 0) := by unfold traceS; rw [ha, hb]
  rw [ha] at c1 hlen hal har
  rw [hb] at c2 hlen
  simp only at hlen hal har
  rw [htr]
  clear ha hb htr h1 h2
  by_cases h0 : e1 = 0
  · subst h0
    have hab := hlen rfl
    rw [if_neg (by simp)]
    simp only
    clear hlen
    repeat' (first | simp (maxDischargeDepth := 9) -implicitDefEqProofs -dsimp only [go_sem, seval, *] | simp (disch := omega) only [wrap64] | ((with_reducible refine Zu ?_ ?_); focus omega) | ((with_reducible apply ACalls.one1); (focus ((first | with_reducible refine eq_checked g h _ hg hh | with_reducible refine c1 _ | with_reducible refine c2 _ | with_reducible refine ACalls.flA (eq_checked g h _ hg hh) ?_ | with_reducible refine ACalls.flA (c1 _) ?_ | with_reducible refine ACalls.flA (c2 _) ?_) <;> (first | (simp (maxDischargeDepth := 9) -implicitDefEqProofs -dsimp only [go_sem, seval, *]; done) | omega))); (focus (first | trivial | with_reducible exact rfl | (simp (maxDischargeDepth := 9) -implicitDefEqProofs -dsimp only [go_sem, seval]; done)))))
    refine loop_rule (fun i : Nat => [(53, some (.int .i64 i)), (52, some (.int .i64 a.length)), (51, some (.slice (a.map (encRow encBool)) .no)), (11, some (.slice (b.map (encRow encBool)) .no)), (10, some (.int .i64 0))])
      (fun _ => σ) (fun i => i ≤ a.length ∧ ∀ j, (hj : j < a.length) → (hj' : j < b.length) → j < i → a[j] = b[j]) (fun i => a.length - i) 0 ?_ ?_
    · (repeat' (first | simp (maxDischargeDepth := 9) -implicitDefEqProofs -dsimp only [go_sem, seval, *] | simp (disch := omega) only [wrap64])) <;> (repeat' refine And.intro ?_ ?_) <;> (first | omega | rfl | assumption | skip)
    · rintro i ⟨hi', hok⟩
      by_cases hlt : i < a.length
      · have hlt' : i < b.length := by omega
        have hx : a[i].length ≤ 1000000000 := har _ (List.getElem_mem hlt)
        by_cases hxy : a[i] = b[i]
        · have hok' : ∀ j, (hj : j < a.length) → (hj' : j < b.length) → j < i + 1 → a[j] = b[j] := fun j hj hj' hji => by
            rcases Nat.lt_or_ge j i with c | c
            · exact hok j hj hj' c
            · obtain rfl : j = i := by omega
              exact hxy
          have heq := fun τ => sl_equalBool a[i] b[i] τ hx
          rw [show decide (a[i] = b[i]) = true by simpa using hxy] at heq
          clear hok hxy har
          repeat' (first | simp (maxDischargeDepth := 9) -implicitDefEqProofs -dsimp only [go_sem, seval, List.getElem_map, *] | simp (disch := omega) only [wrap64] | ((with_reducible refine Zu ?_ ?_); focus omega) | ((with_reducible apply ACalls.one1); (focus ((first | with_reducible refine heq _ | with_reducible refine ACalls.flA (heq _) ?_) <;> (first | (simp (maxDischargeDepth := 9) -implicitDefEqProofs -dsimp only [go_sem, seval, *]; done) | omega))); (focus (first | trivial | with_reducible exact rfl | (simp (maxDischargeDepth := 9) -implicitDefEqProofs -dsimp only [go_sem, seval]; done)))))
          refine loop_next _ _ _ _ (i + 1) ⟨?_, ?_, ⟨by omega, hok'⟩, by omega⟩
          · (repeat' (first | simp (maxDischargeDepth := 9) -implicitDefEqProofs -dsimp only [go_sem, seval, *] | simp (disch := omega) only [wrap64])) <;> (repeat' refine And.intro ?_ ?_) <;> (first | omega | rfl | assumption | skip)
          · (repeat' (first | simp (maxDischargeDepth := 9) -implicitDefEqProofs -dsimp only [go_sem, seval, *] | simp (disch := omega) only [wrap64])) <;> (repeat' refine And.intro ?_ ?_) <;> (first | omega | rfl | assumption | skip)
        · have hv : firstNe a b 0 = (i : Int) := by
            have := first_at a b 0 i hlt hlt' (fun j hj => hok j (by omega) (by omega) hj) hxy
            omega
          have heq := fun τ => sl_equalBool a[i] b[i] τ hx
          rw [show decide (a[i] = b[i]) = false by simpa using hxy] at heq
          rw [hv]
          clear hok hxy har
          repeat' (first | simp (maxDischargeDepth := 9) -implicitDefEqProofs -dsimp only [go_sem, seval, List.getElem_map, *] | simp (disch := omega) only [wrap64] | ((with_reducible refine Zu ?_ ?_); focus omega) | ((with_reducible apply ACalls.one1); (focus ((first | with_reducible refine heq _ | with_reducible refine ACalls.flA (heq _) ?_) <;> (first | (simp (maxDischargeDepth := 9) -implicitDefEqProofs -dsimp only [go_sem, seval, *]; done) | omega))); (focus (first | trivial | with_reducible exact rfl | (simp (maxDischargeDepth := 9) -implicitDefEqProofs -dsimp only [go_sem, seval]; done)))))
          refine fin_eq ?_
          (repeat' (first | simp (maxDischargeDepth := 9) -implicitDefEqProofs -dsimp only [go_sem, seval, *] | simp (disch := omega) only [wrap64])) <;> (repeat' refine And.intro ?_ ?_) <;> (first | omega | rfl | assumption | skip)
      · have hv : firstNe a b 0 = -1 := first_no a b 0 hab fun j hj => hok j hj (by omega) (by omega)
        rw [hv]
        clear hok har
        repeat' (first | simp (maxDischargeDepth := 9) -implicitDefEqProofs -dsimp only [go_sem, seval, *] | simp (disch := omega) only [wrap64] | ((with_reducible refine Zu ?_ ?_); focus omega))
        refine fin_eq ?_
        (repeat' (first | simp (maxDischargeDepth := 9) -implicitDefEqProofs -dsimp only [go_sem, seval, *] | simp (disch := omega) only [wrap64])) <;> (repeat' refine And.intro ?_ ?_) <;> (first | omega | rfl | assumption | skip)
  · rw [if_pos h0]
    have hb' : (e1 != 0) = true := by simpa using h0
    simp only
    clear hlen
    repeat' (first | simp (maxDischargeDepth := 9) -implicitDefEqProofs -dsimp only [go_sem, seval, *] | simp (disch := omega) only [wrap64] | ((with_reducible refine Zu ?_ ?_); focus omega) | ((with_reducible apply ACalls.one1); (focus ((first | with_reducible refine eq_checked g h _ hg hh | with_reducible refine c1 _ | with_reducible refine ACalls.flA (eq_checked g h _ hg hh) ?_ | with_reducible refine ACalls.flA (c1 _) ?_) <;> (first | (simp (maxDischargeDepth := 9) -implicitDefEqProofs -dsimp only [go_sem, seval, *]; done) | omega))); (focus (first | trivial | with_reducible exact rfl | (simp (maxDischargeDepth := 9) -implicitDefEqProofs -dsimp only [go_sem, seval]; done)))))
    refine fin_eq ?_
    (repeat' (first | simp (maxDischargeDepth := 9) -implicitDefEqProofs -dsimp only [go_sem, seval, *] | simp (disch := omega) only [wrap64])) <;> (repeat' refine And.intro ?_ ?_) <;> (first | omega | rfl | assumption | skip)
end Go.Proofs.Ytjichkelfhcbcaa

