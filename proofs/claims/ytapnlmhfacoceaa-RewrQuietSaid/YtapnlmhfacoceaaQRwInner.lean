/- rewr: which gates are inner ones. No program in sight. -/
import Derived.Test.YtapnlmhfacoceaaQRewRewB
set_option linter.unusedSimpArgs false
set_option linter.unusedVariables false
namespace Go.Proofs.Ytapnlmhfacoceaa
open Abs Fil Fil.Rw
open Eqv (moveL)
theorem flop_set (l : List Flop) (k : Nat) (h : k < l.length) (x : Int) : List.take (k * 2 + 0) (flat (l.map encFlop)) ++ [.int .i64 x] ++ List.drop (k * 2 + 0 + 1) (flat (l.map encFlop)) = flat ((l.set k ⟨x, l[k].init⟩).map encFlop) := by
 have h1 := flat_set encFlop 2 (fun _ => rfl) ⟨x, l[k].init⟩ l k h
 rw [← h1]
 have hl := flat_map_len encFlop 2 (fun _ => rfl) l
 have hk : k * 2 + 1 < (flat (l.map encFlop)).length := by omega
 have hg := flat_get encFlop 2 (fun _ => rfl) l k 1 h (by omega)
 have hc : cellsA (encFlop ⟨x, l[k].init⟩) = [.int .i64 x, .bool l[k].init] := rfl
 unfold putAt
 rw [hc]
 simp only [List.length_cons, List.length_nil, Nat.add_zero, List.append_assoc, List.cons_append, List.nil_append]
 congr 2
 rw [List.drop_eq_getElem_cons hk]
 congr 1
 rw [List.getElem?_eq_getElem hk] at hg
 simpa [cellsA, encFlop] using hg
theorem nexts_len (g : Aig) (s : Nat → Option Bool) (lits : List Int) : ∀ i, (nextsAt g s lits i).length = (bgAt g s i).2.length
 | 0 => rfl
 | i + 1 => by
  have := nexts_len g s lits i
  unfold nextsAt bgAt
  cases s i <;> simp [this]
theorem bg_mono (g : Aig) (s : Nat → Option Bool) : ∀ i d, (bgAt g s i).2 <+: (bgAt g s (i + d)).2
 | i, 0 => List.prefix_refl _
 | i, d + 1 => by
  refine (bg_mono g s i d).trans ?_
  show (bgAt g s (i + d)).2 <+: (bgAt g s (i + d + 1)).2
  conv => rhs; unfold bgAt
  cases s (i + d) with
  | some v => exact List.prefix_refl _
  | none => exact List.prefix_append _ _
theorem bg_ge (g : Aig) (s : Nat → Option Bool) {i n : Nat} (h : i ≤ n) : (bgAt g s i).2 <+: (bgAt g s n).2 := by
 have := bg_mono g s i (n - i)
 rwa [show i + (n - i) = n by omega] at this
def midF (g : Aig) (s : Nat → Option Bool) (lits : List Int) (i : Nat) : List Flop := nextsAt g s lits i ++ (bgAt g s g.flops.length).2.drop (nextsAt g s lits i).length
theorem midF_len (g : Aig) (s : Nat → Option Bool) (lits : List Int) {i : Nat} (hi : i ≤ g.flops.length) : (midF g s lits i).length = (bgAt g s g.flops.length).2.length := by
 have h1 := nexts_len g s lits i
 have h2 := (bg_ge g s hi).length_le
 simp only [midF, List.length_append, List.length_drop]; omega
theorem midF_end (g : Aig) (s : Nat → Option Bool) (lits : List Int) : midF g s lits g.flops.length = nextsAt g s lits g.flops.length := by
 have h1 := nexts_len g s lits g.flops.length
 simp only [midF]
 rw [List.drop_eq_nil_of_le (by omega), List.append_nil]
theorem midF_none (g : Aig) (s : Nat → Option Bool) (lits : List Int) {i : Nat} (hi : i < g.flops.length) (hs : s i = none) :
  ∃ h : (nextsAt g s lits i).length < (midF g s lits i).length, midF g s lits (i + 1) = (midF g s lits i).set (nextsAt g s lits i).length ⟨moveL lits g.flops[i].next, ((midF g s lits i)[(nextsAt g s lits i).length]).init⟩ := by
 have h1 := nexts_len g s lits i
 have h2 := nexts_len g s lits (i + 1)
 have hp := bg_ge g s (show i + 1 ≤ g.flops.length from hi)
 have hb : (bgAt g s (i + 1)).2 = (bgAt g s i).2 ++ [⟨0, g.flops[i].init⟩] := by
  conv => lhs; unfold bgAt
  rw [hs]
  simp [List.getD_eq_getElem?_getD, hi]
 have hn : nextsAt g s lits (i + 1) = nextsAt g s lits i ++ [⟨moveL lits g.flops[i].next, g.flops[i].init⟩] := by
  conv => lhs; unfold nextsAt
  rw [hs]
  simp [List.getD_eq_getElem?_getD, hi]
 obtain ⟨r, hr⟩ := hp
 rw [hb] at hr
 have hm : midF g s lits i = nextsAt g s lits i ++ ⟨0, g.flops[i].init⟩ :: r := by
  unfold midF
  rw [← hr, List.append_assoc, h1, List.drop_left]
  rfl
 have hm1 : midF g s lits (i + 1) = nextsAt g s lits i ++ ⟨moveL lits g.flops[i].next, g.flops[i].init⟩ :: r := by
  unfold midF
  rw [hn, ← hr]
  simp only [List.length_append, List.length_cons, List.length_nil]
  rw [h1, List.drop_append, List.drop_eq_nil_of_le (by simp)]
  simp
 refine ⟨by rw [hm]; simp, ?_⟩
 rw [hm1, List.set_eq_take_append_cons_drop]
 have hlt : (nextsAt g s lits i).length < (midF g s lits i).length := by rw [hm]; simp
 rw [if_pos hlt]
 have e1 : (midF g s lits i).take (nextsAt g s lits i).length = nextsAt g s lits i := by rw [hm]; simp
 have e2 : (midF g s lits i).drop ((nextsAt g s lits i).length + 1) = r := by rw [hm, List.drop_append]; simp
 have e3 : ((midF g s lits i)[(nextsAt g s lits i).length]).init = g.flops[i].init := by simp [hm]
 rw [e1, e2, e3]
set_option maxRecDepth 20000 in
set_option maxHeartbeats 4000000 in
theorem rw_end (o p : Nat) (g : Aig) (s : Nat → Option Bool) (st : AV) (b : B) (ta tL : Tok) (V : AV) (σ τ : Sig) (hst : StOk σ st g.flops.length s)
  (hB : σ o = some (.cells [.int .i64 g.ins, .slice (g.flops.map encFlop) .no, .slice (g.ands.map encGate) .no, .slice (g.outs.map encInt) .no, .int .i64 b.g.ins, flV p b.g.flops, .slice (b.g.ands.map encGate) ta, .slice [] .nil, ilist b.lits tL, V]))
  (hp : σ p = some (flO b.g.flops)) (hV : cellsA V = [V]) (hV1 : oneA V = true) (n1 : ¬ o = p) (n1' : ¬ p = o) (hbf : b.g.flops = (bgAt g s g.flops.length).2) (hbo : b.g.outs = [])
  (hfl : g.flops.length ≤ 100000) (hol : g.outs.length ≤ 100000) (hl : ∀ x ∈ b.lits, 0 ≤ x ∧ x ≤ 1000000) (hnx : ∀ f ∈ g.flops, 0 ≤ f.next ∧ (f.next / 2).toNat < b.lits.length ∧ f.next ≤ 1000000)
  (hout : ∀ a ∈ g.outs, 0 ≤ a ∧ (a / 2).toNat < b.lits.length ∧ a ≤ 1000000) (hτ : ∀ q x, τ q = some x → σ q = some x ∧ ¬ q = o ∧ ¬ q = p) :
  ACalls Try.prog 42 [.ptr o 0, st] σ (fun r σ' => r = .ret (encAig (endB g s b)) ∧ σ' = τ) := by
 refine ACalls.virt (callable_of Try.func42 b42 n42) 1 (fun oV1 hoV1 hnV1 hnV1' => ?_); (try simp only [upd_none, ne_eq, not_and] at hoV1); refine calls_x mixed Try.func42 b42 n42 rfl q42 (by simp) ?_; unfold c42 r42
 have heE : endB g s b = ⟨b.g.ins, nextsAt g s b.lits g.flops.length, b.g.ands, g.outs.map (moveL b.lits)⟩ := by
  unfold endB; rw [hbo, List.nil_append]
 rw [heE]
 have hno : ¬ σ o = none := by rw [hB]; simp
 have hnp : ¬ σ p = none := by rw [hp]; simp
 have ho1 : ¬ o = oV1 ∧ ¬ oV1 = o ∧ ¬ p = oV1 ∧ ¬ oV1 = p := ⟨hnV1 o hno, hnV1' o hno, hnV1 p hnp, hnV1' p hnp⟩
 rw [hbf] at hB hp
 obtain ⟨K, hK⟩ : ∃ K, (bgAt g s g.flops.length).2 = K := ⟨_, rfl⟩
 rw [hK] at hB hp
 have htau : ∀ q x, τ q = some x → σ q = some x ∧ ¬ q = o ∧ ¬ q = p ∧ ¬ q = oV1 := fun q x hq => by
  obtain ⟨h1, h2, h3⟩ := hτ q x hq
  exact ⟨h1, h2, h3, fun e => by subst e; rw [hoV1] at h1; simp at h1⟩
 clear hτ hbf hbo heE
 repeat' (first | simp (maxDischargeDepth := 9) -implicitDefEqProofs -dsimp only [go_sem, seval, *] | ((with_reducible refine Zt (fun oF hoF hnF hnF' => ?_)); (try simp only [upd_none, ne_eq, not_and] at hoF)))
 obtain ⟨oR, eR⟩ : ∃ x, x = oF := ⟨oF, rfl⟩
 subst eR
 have hoR : σ oR = none := by have := hoF; simp_all
 have hrp : ¬ oR = p ∧ ¬ p = oR ∧ ¬ oR = o ∧ ¬ o = oR := ⟨fun e => hnp (e ▸ hoR), fun e => hnp (e ▸ hoR), fun e => hno (e ▸ hoR), fun e => hno (e ▸ hoR)⟩
 have htau2 : ∀ q x, τ q = some x → σ q = some x ∧ ¬ q = o ∧ ¬ q = p ∧ ¬ q = oV1 ∧ ¬ q = oR := fun q x hq => by
  obtain ⟨h1, h2, h3, h4⟩ := htau q x hq
  exact ⟨h1, h2, h3, h4, fun e => by subst e; rw [hoR] at h1; simp at h1⟩
 clear htau
 by_cases hK0 : K = []
 ·subst hK0
  have hF : flV p [] = .slice [] .no := rfl
  rw [hF] at hB
  rw [flO_nil] at hp
  clear hF
  have hsome : ∀ i, i < g.flops.length → ∃ v, s i = some v := fun i hi => by
   have hp := bg_ge g s (show i + 1 ≤ g.flops.length from hi)
   rw [hK] at hp
   have h0 := List.prefix_nil.1 hp
   cases hsi : s i with
   | some v => exact ⟨v, rfl⟩
   | none =>
    unfold bgAt at h0
    rw [hsi] at h0
    simp at h0
  have hz : ∀ i, i ≤ g.flops.length → nextsAt g s b.lits i = [] := fun i hi => by
   have h1 := nexts_len g s b.lits i
   have h2 := (bg_ge g s hi).length_le
   rw [hK] at h2
   exact List.eq_nil_of_length_eq_zero (by simp at h2; rw [h1, h2]; rfl)
  rw [hz _ (Nat.le_refl _)]
  refine loop_rule (fun i : Nat => [(18, some (.int .i64 i)), (17, some (.int .i64 g.flops.length)), (16, some (.slice (g.flops.map encFlop) .no)), (1, some st), (0, some (.ptr o 0)), (5, some (.int .i64 0)), (4, some (.ptr oR 0))])
   (fun i => upd (upd (upd σ oV1 (.virt 1)) oR (.cells [.int .i64 0, .slice [] .nil, .slice [] .nil, .slice [] .nil])) p (.virt 2))
   (fun i => i ≤ g.flops.length) (fun i => g.flops.length - i) 0 ?_ ?_
  ·(repeat' simp (maxDischargeDepth := 9) -implicitDefEqProofs -dsimp only [go_sem, seval, *]) <;> (first | omega | skip)
  ·intro i hi
   by_cases hlt : i < g.flops.length
   ·have hlt' : (i : Int) < g.flops.length := by omega
    obtain ⟨v, hsi⟩ := hsome i hlt
    rcases hst with ⟨rfl, hst⟩ | ⟨om, d, m, rfl, hom, hm⟩
    ·rw [hst i] at hsi; simp at hsi
    ·have hon : ¬ σ om = none := by rw [hom]; simp
     have hop : ¬ om = oR ∧ ¬ oR = om := ⟨fun e => hon (e ▸ hoR), fun e => hon (e ▸ hoR)⟩
     have hop2 : ¬ om = p ∧ ¬ p = om := ⟨fun e => by rw [e, hp] at hom; simp at hom, fun e => by rw [e] at hp; rw [hom] at hp; simp at hp⟩
     have hlk := hm i hlt
     rw [hsi] at hlk
     simp only [Option.map_some] at hlk
     clear hm hsome hz hnx hout
     repeat' (first | simp (maxDischargeDepth := 9) -implicitDefEqProofs -dsimp only [go_sem, seval, Option.getD_some, Option.isSome_some, *] | simp (disch := omega) only [wrap64] | ((with_reducible refine Zv ?_ ?_); focus (first | omega | exact rfl)) | ((with_reducible refine Zu ?_ ?_); focus omega) | ((with_reducible refine Zt (fun oF hoF hnF hnF' => ?_)); (try simp only [upd_none, ne_eq, not_and] at hoF)))
     refine loop_next _ _ _ _ (i + 1) ?_; (repeat' simp (maxDischargeDepth := 9) -implicitDefEqProofs -dsimp only [go_sem, seval, *]) <;> (repeat' refine And.intro ?_ ?_) <;> (first | omega | skip)
   ·have hlt' : ¬ (i : Int) < g.flops.length := by omega
    have ei : i = g.flops.length := by omega
    subst ei
    clear hsome hz
    repeat' simp (maxDischargeDepth := 9) -implicitDefEqProofs -dsimp only [go_sem, seval, *]
    refine loop_rule (fun j : Nat => [(52, some (.int .i64 j)), (51, some (.int .i64 g.outs.length)), (50, some (.slice (g.outs.map encInt) .no)), (0, some (.ptr o 0)), (4, some (.ptr oR 0))])
     (fun j => upd (upd (upd (upd σ oV1 (.grow 1 j)) oR (.cells [.int .i64 0, .slice [] .nil, .slice [] .nil, .slice [] .nil])) p (.virt 2)) o (.cells [.int .i64 g.ins, .slice (g.flops.map encFlop) .no, .slice (g.ands.map encGate) .no, .slice (g.outs.map encInt) .no, .int .i64 b.g.ins, .slice [] .no, .slice (b.g.ands.map encGate) ta, .slice (((g.outs.map (moveL b.lits)).take j).map encInt) (.own oV1), ilist b.lits tL, V]))
     (fun j => j ≤ g.outs.length) (fun j => g.outs.length - j) 0 ?_ ?_
    ·(repeat' simp (maxDischargeDepth := 9) -implicitDefEqProofs -dsimp only [go_sem, seval, List.take_zero, List.map_nil, *]) <;> (first | omega | skip)
    ·intro j hj
     by_cases hjl : j < g.outs.length
     ·have hjl' : (j : Int) < g.outs.length := by omega
      have hx := hout _ (List.getElem_mem hjl)
      have hs' := take_succ (l := g.outs.map (moveL b.lits)) (i := j) (by simpa using hjl)
      rw [List.getElem_map] at hs'
      obtain ⟨x, hxe⟩ : ∃ x, g.outs[j] = x := ⟨_, rfl⟩
      rw [hxe] at hx hs'
      have hlen : ((g.outs.map (moveL b.lits)).take j).length = j := by simp; omega
      have hlc := fun τ hB => rw_lit o (.int .i64 g.ins) (.slice (g.flops.map encFlop) .no) (.slice (g.ands.map encGate) .no) (.slice (g.outs.map encInt) .no) (.int .i64 b.g.ins) (.slice [] .no) (.slice (b.g.ands.map encGate) ta) (.slice (((g.outs.map (moveL b.lits)).take j).map encInt) (.own oV1)) V b.lits tL x τ hB hx.1 hx.2.1 hl hx.2.2
      clear hnx hout hl
      repeat' (first | simp (maxDischargeDepth := 9) -implicitDefEqProofs -dsimp only [go_sem, seval, *] | simp (disch := omega) only [wrap64] | ((with_reducible refine Zv ?_ ?_); focus (first | omega | exact rfl)) | ((with_reducible refine Zu ?_ ?_); focus omega) | ((with_reducible apply id_one0); (focus (intro tS hS; ((with_reducible refine hlc _ ?_) <;> (first | (simp (maxDischargeDepth := 9) -implicitDefEqProofs -dsimp only [go_sem, seval, *]; done) | omega | ((with_reducible refine Sub.get hS ?_); simp (maxDischargeDepth := 9) -implicitDefEqProofs -dsimp only [go_sem, seval, *]; done))))); (focus (first | trivial | (simp (maxDischargeDepth := 9) -implicitDefEqProofs -dsimp only [go_sem, seval, *]; done)))))
      refine loop_next _ _ _ _ (j + 1) ?_; (repeat' simp (maxDischargeDepth := 9) -implicitDefEqProofs -dsimp only [go_sem, seval,  List.map_append, List.map_cons, List.map_nil, *]) <;> (repeat' refine And.intro ?_ ?_) <;> (first | omega | skip)
     ·have hjl' : ¬ (j : Int) < g.outs.length := by omega
      have e0 : (g.outs.map (moveL b.lits)).take j = g.outs.map (moveL b.lits) := List.take_of_length_le (by simp; omega)
      rw [e0]
      clear hnx hout hl
      repeat' simp (maxDischargeDepth := 9) -implicitDefEqProofs -dsimp only [go_sem, seval, *]
      refine fin_v (encAig ⟨b.g.ins, [], b.g.ands, g.outs.map (moveL b.lits)⟩) τ ⟨rfl, rfl⟩ ?_ ?_
      ·simp (maxDischargeDepth := 9) -implicitDefEqProofs -dsimp only [go_sem, seval, List.map_nil, *]
      ·refine subx_of fun q x hq => ?_
       obtain ⟨h1, h2, h3, h4, h5⟩ := htau2 q x hq
       simp only [upd, h2, h3, h4, h5, if_false]
       exact h1
 ·have hF : flV p K = .vec p K.length := if_neg hK0
  have hFO : flO K = .vec 2 K.length (flat (K.map encFlop)) := flO_cons hK0
  rw [hF] at hB
  rw [hFO] at hp
  clear hF hFO
  refine loop_rule (fun i : Nat => [(18, some (.int .i64 i)), (17, some (.int .i64 g.flops.length)), (16, some (.slice (g.flops.map encFlop) .no)), (1, some st), (0, some (.ptr o 0)), (5, some (.int .i64 (nextsAt g s b.lits i).length)), (4, some (.ptr oR 0))])
   (fun i => upd (upd (upd σ oV1 (.virt 1)) oR (.cells [.int .i64 0, .slice [] .nil, .slice [] .nil, .slice [] .nil])) p (.vec 2 K.length (flat ((midF g s b.lits i).map encFlop))))
   (fun i => i ≤ g.flops.length) (fun i => g.flops.length - i) 0 ?_ ?_
  ·have e0 : midF g s b.lits 0 = K := by simp [midF, nextsAt, hK]
   have e1 : (nextsAt g s b.lits 0).length = 0 := rfl
   (repeat' simp (maxDischargeDepth := 9) -implicitDefEqProofs -dsimp only [go_sem, seval, e0, e1, *]) <;> (first | omega | skip)
  ·intro i hi
   have hml := midF_len g s b.lits hi
   rw [hK] at hml
   have hfll := flat_map_len encFlop 2 (fun _ => rfl) (midF g s b.lits i)
   by_cases hlt : i < g.flops.length
   ·have hlt' : (i : Int) < g.flops.length := by omega
    have hx := hnx _ (List.getElem_mem hlt)
    have hg : g.flops.getD i ⟨0, false⟩ = g.flops[i] := by simp [List.getD_eq_getElem?_getD, hlt]
    obtain ⟨f, hf⟩ : ∃ f, g.flops[i] = f := ⟨_, rfl⟩
    rw [hf] at hx
    have hlc := fun τ hB => rw_lit o (.int .i64 g.ins) (.slice (g.flops.map encFlop) .no) (.slice (g.ands.map encGate) .no) (.slice (g.outs.map encInt) .no) (.int .i64 b.g.ins) (.vec p K.length) (.slice (b.g.ands.map encGate) ta) (.slice [] .nil) V b.lits tL f.next τ hB hx.1 hx.2.1 hl hx.2.2
    have step : s i = none → ∃ k, (nextsAt g s b.lits i).length = k ∧ k < K.length ∧ (nextsAt g s b.lits (i + 1)).length = k + 1 ∧
      List.take (k * 2 + 0) (flat ((midF g s b.lits i).map encFlop)) ++ [.int .i64 (moveL b.lits f.next)] ++ List.drop (k * 2 + 0 + 1) (flat ((midF g s b.lits i).map encFlop)) = flat ((midF g s b.lits (i + 1)).map encFlop) := fun hs => by
     obtain ⟨q1, q2⟩ := midF_none g s b.lits hlt hs
     refine ⟨_, rfl, by rw [← hml]; exact q1, ?_, ?_⟩
     ·conv => lhs; unfold nextsAt
      rw [hs]; simp
     ·rw [q2, hf]; exact flop_set _ _ q1 _
    have skip : ∀ v, s i = some v → nextsAt g s b.lits (i + 1) = nextsAt g s b.lits i ∧ midF g s b.lits (i + 1) = midF g s b.lits i := fun v hs => by
     have : nextsAt g s b.lits (i + 1) = nextsAt g s b.lits i := by
      conv => lhs; unfold nextsAt
      rw [hs]
     exact ⟨this, by unfold midF; rw [this]⟩
    have hKl : K.length ≤ 100000 := by have := (bg_len g s g.flops.length).2; rw [hK] at this; omega
    rw [hml] at hfll
    clear hnx hout hml
    rcases hst with ⟨rfl, hst⟩ | ⟨om, d, m, rfl, hom, hm⟩
    ·obtain ⟨k, k1, k2, k3, k4⟩ := step (hst i)
     clear step skip hst
     repeat' (first | simp (maxDischargeDepth := 9) -implicitDefEqProofs -dsimp only [go_sem, seval, *] | simp (disch := omega) only [wrap64] | ((with_reducible refine Zv ?_ ?_); focus (first | omega | exact rfl)) | ((with_reducible refine Zu ?_ ?_); focus omega) | ((with_reducible refine Zt (fun oF hoF hnF hnF' => ?_)); (try simp only [upd_none, ne_eq, not_and] at hoF)) | ((with_reducible apply id_one0); (focus (intro tS hS; ((with_reducible refine hlc _ ?_) <;> (first | (simp (maxDischargeDepth := 9) -implicitDefEqProofs -dsimp only [go_sem, seval, *]; done) | omega | ((with_reducible refine Sub.get hS ?_); simp (maxDischargeDepth := 9) -implicitDefEqProofs -dsimp only [go_sem, seval, *]; done))))); (focus (first | trivial | (simp (maxDischargeDepth := 9) -implicitDefEqProofs -dsimp only [go_sem, seval, *]; done)))))
     refine loop_next _ _ _ _ (i + 1) ?_; (repeat' simp (maxDischargeDepth := 9) -implicitDefEqProofs -dsimp only [go_sem, seval, *]) <;> (repeat' refine And.intro ?_ ?_) <;> (first | omega | skip)
    ·have hon : ¬ σ om = none := by rw [hom]; simp
     have hop : ¬ om = oR ∧ ¬ oR = om := ⟨fun e => hon (e ▸ hoR), fun e => hon (e ▸ hoR)⟩
     have hop2 : ¬ om = p ∧ ¬ p = om := ⟨fun e => by rw [e, hp] at hom; simp at hom, fun e => by rw [e] at hp; rw [hom] at hp; simp at hp⟩
     have hlk := hm i hlt
     cases hsi : s i with
     | some v =>
      obtain ⟨k1, k2⟩ := skip v hsi
      rw [hsi] at hlk
      simp only [Option.map_some] at hlk
      clear step skip hm
      repeat' (first | simp (maxDischargeDepth := 9) -implicitDefEqProofs -dsimp only [go_sem, seval, Option.getD_some, Option.isSome_some, *] | simp (disch := omega) only [wrap64] | ((with_reducible refine Zv ?_ ?_); focus (first | omega | exact rfl)) | ((with_reducible refine Zu ?_ ?_); focus omega) | ((with_reducible refine Zt (fun oF hoF hnF hnF' => ?_)); (try simp only [upd_none, ne_eq, not_and] at hoF)))
      refine loop_next _ _ _ _ (i + 1) ?_; (repeat' simp (maxDischargeDepth := 9) -implicitDefEqProofs -dsimp only [go_sem, seval, *]) <;> (repeat' refine And.intro ?_ ?_) <;> (first | omega | skip)
     | none =>
      obtain ⟨k, k1, k2, k3, k4⟩ := step hsi
      rw [hsi] at hlk
      simp only [Option.map_none] at hlk
      clear step skip hm
      repeat' (first | simp (maxDischargeDepth := 9) -implicitDefEqProofs -dsimp only [go_sem, seval, Option.getD_none, Option.isSome_none, *] | simp (disch := omega) only [wrap64] | ((with_reducible refine Zv ?_ ?_); focus (first | omega | exact rfl)) | ((with_reducible refine Zu ?_ ?_); focus omega) | ((with_reducible refine Zt (fun oF hoF hnF hnF' => ?_)); (try simp only [upd_none, ne_eq, not_and] at hoF)) | ((with_reducible apply id_one0); (focus (intro tS hS; ((with_reducible refine hlc _ ?_) <;> (first | (simp (maxDischargeDepth := 9) -implicitDefEqProofs -dsimp only [go_sem, seval, *]; done) | omega | ((with_reducible refine Sub.get hS ?_); simp (maxDischargeDepth := 9) -implicitDefEqProofs -dsimp only [go_sem, seval, *]; done))))); (focus (first | trivial | (simp (maxDischargeDepth := 9) -implicitDefEqProofs -dsimp only [go_sem, seval, *]; done)))))
      refine loop_next _ _ _ _ (i + 1) ?_; (repeat' simp (maxDischargeDepth := 9) -implicitDefEqProofs -dsimp only [go_sem, seval, *]) <;> (repeat' refine And.intro ?_ ?_) <;> (first | omega | skip)
   ·have hlt' : ¬ (i : Int) < g.flops.length := by omega
    have ei : i = g.flops.length := by omega
    subst ei
    rw [midF_end]
    repeat' simp (maxDischargeDepth := 9) -implicitDefEqProofs -dsimp only [go_sem, seval, *]
    refine loop_rule (fun j : Nat => [(52, some (.int .i64 j)), (51, some (.int .i64 g.outs.length)), (50, some (.slice (g.outs.map encInt) .no)), (0, some (.ptr o 0)), (4, some (.ptr oR 0))])
     (fun j => upd (upd (upd (upd σ oV1 (.grow 1 j)) oR (.cells [.int .i64 0, .slice [] .nil, .slice [] .nil, .slice [] .nil])) p (.vec 2 K.length (flat ((nextsAt g s b.lits g.flops.length).map encFlop)))) o (.cells [.int .i64 g.ins, .slice (g.flops.map encFlop) .no, .slice (g.ands.map encGate) .no, .slice (g.outs.map encInt) .no, .int .i64 b.g.ins, .vec p K.length, .slice (b.g.ands.map encGate) ta, .slice (((g.outs.map (moveL b.lits)).take j).map encInt) (.own oV1), ilist b.lits tL, V]))
     (fun j => j ≤ g.outs.length) (fun j => g.outs.length - j) 0 ?_ ?_
    ·(repeat' simp (maxDischargeDepth := 9) -implicitDefEqProofs -dsimp only [go_sem, seval, List.take_zero, List.map_nil, *]) <;> (first | omega | skip)
    ·intro j hj
     by_cases hjl : j < g.outs.length
     ·have hjl' : (j : Int) < g.outs.length := by omega
      have hx := hout _ (List.getElem_mem hjl)
      have hs' := take_succ (l := g.outs.map (moveL b.lits)) (i := j) (by simpa using hjl)
      rw [List.getElem_map] at hs'
      obtain ⟨x, hxe⟩ : ∃ x, g.outs[j] = x := ⟨_, rfl⟩
      rw [hxe] at hx hs'
      have hlen : ((g.outs.map (moveL b.lits)).take j).length = j := by simp; omega
      have hlc := fun τ hB => rw_lit o (.int .i64 g.ins) (.slice (g.flops.map encFlop) .no) (.slice (g.ands.map encGate) .no) (.slice (g.outs.map encInt) .no) (.int .i64 b.g.ins) (.vec p K.length) (.slice (b.g.ands.map encGate) ta) (.slice (((g.outs.map (moveL b.lits)).take j).map encInt) (.own oV1)) V b.lits tL x τ hB hx.1 hx.2.1 hl hx.2.2
      clear hnx hout hl
      repeat' (first | simp (maxDischargeDepth := 9) -implicitDefEqProofs -dsimp only [go_sem, seval, *] | simp (disch := omega) only [wrap64] | ((with_reducible refine Zv ?_ ?_); focus (first | omega | exact rfl)) | ((with_reducible refine Zu ?_ ?_); focus omega) | ((with_reducible apply id_one0); (focus (intro tS hS; ((with_reducible refine hlc _ ?_) <;> (first | (simp (maxDischargeDepth := 9) -implicitDefEqProofs -dsimp only [go_sem, seval, *]; done) | omega | ((with_reducible refine Sub.get hS ?_); simp (maxDischargeDepth := 9) -implicitDefEqProofs -dsimp only [go_sem, seval, *]; done))))); (focus (first | trivial | (simp (maxDischargeDepth := 9) -implicitDefEqProofs -dsimp only [go_sem, seval, *]; done)))))
      refine loop_next _ _ _ _ (j + 1) ?_; (repeat' simp (maxDischargeDepth := 9) -implicitDefEqProofs -dsimp only [go_sem, seval,  List.map_append, List.map_cons, List.map_nil, *]) <;> (repeat' refine And.intro ?_ ?_) <;> (first | omega | skip)
     ·have hjl' : ¬ (j : Int) < g.outs.length := by omega
      have e0 : (g.outs.map (moveL b.lits)).take j = g.outs.map (moveL b.lits) := List.take_of_length_le (by simp; omega)
      rw [e0]
      clear hnx hout hl
      repeat' simp (maxDischargeDepth := 9) -implicitDefEqProofs -dsimp only [go_sem, seval, *]
      have hh := midF_end g s b.lits
      have hml' : (nextsAt g s b.lits g.flops.length).length = K.length := by rw [← hh]; exact hml
      obtain ⟨Z, hZ⟩ : ∃ Z, nextsAt g s b.lits g.flops.length = Z := ⟨_, rfl⟩
      rw [hZ] at hml' ⊢
      refine fin_frz p (sz := 2) (n := K.length) (cs := flat (Z.map encFlop)) (l := Z.map encFlop) (v0 := encAig ⟨b.g.ins, Z, b.g.ands, g.outs.map (moveL b.lits)⟩)
       (v1 := .agg [.int .i64 b.g.ins, .slice (Z.map encFlop) .no, .slice (b.g.ands.map encGate) ta, .slice ((g.outs.map (moveL b.lits)).map encInt) (.own oV1)]) ?_ rfl (by simp [hml']) (flop_all Z) ?_ ?_ ?_ ⟨rfl, rfl⟩
      ·simp (maxDischargeDepth := 9) -implicitDefEqProofs -dsimp only [go_sem, seval, *]
      ·refine .agg _ _ rfl ?_
       intro a a0 a1
       match a, a0 with
       | 0, _ => exact .refl _
       | 1, _ => exact .base _ _ ⟨rfl, .inr rfl⟩
       | 2, _ => exact .refl _
       | 3, _ => exact .refl _
      ·simp (maxDischargeDepth := 9) -implicitDefEqProofs -dsimp only [go_sem, seval, *]
      ·refine subx_of fun q x hq => ?_
       obtain ⟨h1, h2, h3, h4, h5⟩ := htau2 q x hq
       simp only [upd, h2, h3, h4, h5, if_false]
       exact h1
end Go.Proofs.Ytapnlmhfacoceaa

namespace Fil
open Abs
def Aig.lv (g : Aig) : List Int := Aig.levs (List.replicate g.first.toNat 0) g.ands
theorem levels_eq {g : Aig} (hc : g.check = 0) : g.Levels = (g.lv, 0) := by simp [Aig.Levels, hc, Aig.lv]
theorem lv_length {g : Aig} (hf : Fine g) : ((g.lv.length : Nat) : Int) = 1 + g.count := by
 have hlo := hf.lo
 unfold Aig.lv
 rw [levs_length, List.length_replicate, count_first]
 unfold Aig.first; omega
theorem lv_bound {g : Aig} (hf : Fine g) : ∀ x ∈ g.lv, 0 ≤ x ∧ x ≤ 1000000 := fun x hx => by
 have := levs_bound g.ands (List.replicate g.first.toNat 0) 0 (fun y hy => by simp at hy; omega) (by omega) x hx
 have := hf.ands
 omega
theorem andO_cases {g h : Aig} {p q x : Int} (ho : g.andO p q = some (h, x)) : h = g ∨ (h = { g with ands := g.ands ++ [(min p q, max p q)] } ∧ x = 2 * (g.count + 1)) := by
 unfold Aig.andO at ho
 simp only at ho
 split at ho
 ·simp at ho; exact .inl ho.1.symm
 ·split at ho
  ·simp at ho; exact .inl ho.1.symm
  ·split at ho
   ·simp at ho; exact .inl ho.1.symm
   ·split at ho
    ·simp at ho
    ·simp at ho; exact .inr ⟨ho.1.symm, ho.2.symm⟩
def Aig.tops (l : List Int) : Int := l.foldl max 0
end Fil

namespace Fil.Rw
open Abs
open Eqv (moveL)
structure Bd (b : B) : Prop where
 fine : Fine b.g
 chk : b.g.check = 0
 lev : b.lev = b.g.lv
theorem Bd.llen {b : B} (h : Bd b) : ((b.lev.length : Nat) : Int) = 1 + b.g.count := by rw [h.lev]; exact lv_length h.fine
theorem Bd.bound {b : B} (h : Bd b) : ∀ v ∈ b.lev, 0 ≤ v ∧ v ≤ 1000000 := by rw [h.lev]; exact lv_bound h.fine
theorem and_some {g : Aig} (hc : g.check = 0) {x y : Int} (hx : g.lit x = true) (hy : g.lit y = true) (hn : g.count < 65536) : ∃ h z, g.andO x y = some (h, z) ∧ g.And x y = (h, z, 0) := by
 have hf := Eqv.And_fit hc hx hy hn
 have e : g.And x y = Aig.endW (g.andW 0 x y) := by unfold Aig.And; rw [checkL_two hc hx hy]
 rw [endW_and] at e
 cases ho : g.andO x y with
 | none => rw [ho] at e; rw [e] at hf; simp at hf
 | some r =>
  rw [ho] at e
  exact ⟨r.1, r.2, rfl, e⟩
theorem lv_push {g : Aig} (p : Int × Int) : Aig.lv { g with ands := g.ands ++ [p] } = g.lv ++ [1 + max (g.lv.getD (p.1 / 2).toNat 0) (g.lv.getD (p.2 / 2).toNat 0)] := by
 show Aig.levs (List.replicate g.first.toNat 0) (g.ands ++ [p]) = _
 rw [levs_append]; rfl
theorem andB_ok {b : B} (hb : Bd b) {x y : Int} (hx : b.g.lit x = true) (hy : b.g.lit y = true) (hn : b.g.count < 65536) :
  (b.g.And x y).2.2 = 0 ∧ Bd (andB b x y).1 ∧ (andB b x y).1.g.lit (andB b x y).2 = true ∧ Ext b.g (andB b x y).1.g ∧ (andB b x y).1.g.ands.length ≤ b.g.ands.length + 1 ∧ (andB b x y).1.lits = b.lits := by
 have h0 := Eqv.And_fit hb.chk hx hy hn
 obtain ⟨k1, k2, k3, k4, k5, _⟩ := (and_res hb.fine.toWf x y).check hb.fine.toWf h0
 refine ⟨h0, ⟨k2, k1, ?_⟩, k4, k3, k5, rfl⟩
 obtain ⟨h, z, e1, e2⟩ := and_some hb.chk hx hy hn
 unfold andB
 rw [e2]
 simp only
 rcases andO_cases e1 with rfl | ⟨rfl, rfl⟩
 ·rw [if_neg (by omega)]; exact hb.lev
 ·rw [if_pos (by simp), lv_push, hb.lev]
  congr 2
  have hm : ∀ u v : Int, 1 + max u v = 1 + max v u := fun u v => by omega
  rcases Int.le_total x y with h | h
  ·rw [Int.min_eq_left h, Int.max_eq_right h]
  ·rw [Int.min_eq_right h, Int.max_eq_left h]
   exact hm _ _
structure Sml (g : Aig) : Prop where
 wf : Wf g
 chk : g.check = 0
 ins : g.ins ≤ 60
 flops : g.flops.length ≤ 60
 ands : g.ands.length ≤ 200
 outs : g.outs.length ≤ 60
theorem Sml.fine {g : Aig} (h : Sml g) : Fine g := check_fine h.wf h.chk
theorem Sml.lo {g : Aig} (h : Sml g) : 0 ≤ g.ins := h.fine.lo
theorem Sml.good {g : Aig} (h : Sml g) : g.good = true := by
 have hc := h.chk
 unfold Aig.check at hc
 split at hc
 ·simp at hc
 ·split at hc
  ·simp at hc
  ·split at hc
   ·assumption
   ·simp at hc
theorem bg_length (g : Aig) (s : Nat → Option Bool) : ∀ i, (bgAt g s i).1.length = (1 + g.ins).toNat + i ∧ (bgAt g s i).2.length ≤ i
 | 0 => by simp [bgAt, evens]
 | i + 1 => by
  obtain ⟨h1, h2⟩ := bg_length g s i
  unfold bgAt
  cases s i with
  | some v => simp; omega
  | none => simp; omega
theorem bg_lits (g : Aig) (s : Nat → Option Bool) (h : 0 ≤ g.ins) : ∀ i, ∀ x ∈ (bgAt g s i).1, 0 ≤ x ∧ x < 2 * (1 + g.ins + (bgAt g s i).2.length)
 | 0 => fun x hx => by
  simp only [bgAt, evens, List.mem_map, List.mem_range] at hx
  obtain ⟨a, ha, rfl⟩ := hx
  simp [bgAt]; omega
 | i + 1 => fun x hx => by
  have ih := bg_lits g s h i
  revert hx
  unfold bgAt
  cases s i with
  | some v =>
   intro hx
   rcases List.mem_append.1 hx with q | q
   ·exact ih x q
   ·simp at q; subst q
    unfold bit
    constructor
    ·split <;> omega
    ·split <;> simp only <;> omega
  | none =>
   intro hx
   simp only [List.length_append, List.length_cons, List.length_nil]
   rcases List.mem_append.1 hx with q | q
   ·have := ih x q; omega
   ·simp at q; subst q; omega
theorem bgn_bd {g : Aig} (hg : Sml g) (s : Nat → Option Bool) : Bd (bgn g s) ∧ (bgn g s).g.count = g.ins + (bgAt g s g.flops.length).2.length ∧ (∀ x ∈ (bgn g s).lits, (bgn g s).g.lit x = true) ∧ (bgn g s).lits.length = g.first.toNat := by
 have hlo := hg.lo
 have h1 := hg.ins
 have h2 := hg.flops
 obtain ⟨l1, l2⟩ := bg_length g s g.flops.length
 have hl := bg_lits g s hlo g.flops.length
 have hnx : ∀ i, ∀ f ∈ (bgAt g s i).2, f.next = 0 := fun i => by
  induction i with
  | zero => simp [bgAt]
  | succ i ih =>
   intro f hf
   revert hf
   unfold bgAt
   cases s i with
   | some v => exact ih f
   | none =>
    intro hf
    rcases List.mem_append.1 hf with q | q
    ·exact ih f q
    ·simp at q; subst q; rfl
 have hx := hnx g.flops.length
 unfold bgn
 obtain ⟨⟨L, K⟩, hLK⟩ : ∃ p, bgAt g s g.flops.length = p := ⟨_, rfl⟩
 rw [hLK] at l1 l2 hl hx ⊢
 simp only at l1 l2 hl hx ⊢
 have hcnt : (⟨g.ins, K, [], []⟩ : Aig).count = g.ins + K.length := by simp [Aig.count]
 have hf : Fine ⟨g.ins, K, [], []⟩ := by
  refine ⟨⟨⟨⟨show -9223372036854775808 ≤ g.ins by omega, show g.ins ≤ 9223372036854775807 by omega⟩, by simp; omega, by simp, by simp, fun f hf => ?_, by simp, by simp⟩, hlo, by simp; omega⟩, by rw [hcnt]; omega, rfl⟩
  rw [hx f hf]; simp [I64]
 have hck : (⟨g.ins, K, [], []⟩ : Aig).check = 0 := by
  have hgd : (⟨g.ins, K, [], []⟩ : Aig).good = true := by
   simp only [Aig.good, Aig.gatesOk, List.any_nil, Bool.not_false, Bool.and_true, Bool.true_and, Bool.not_eq_true', List.any_eq_false, Bool.not_eq_true, Bool.not_eq_false']
   intro f hf
   have hl0 : Aig.lit ⟨g.ins, K, [], []⟩ 0 = true := litN_iff.2 ⟨by omega, by rw [hcnt]; omega⟩
   rw [hx f hf, hl0]; simp
  unfold Aig.check
  have c1 : ¬ ((⟨g.ins, K, [], []⟩ : Aig).ins < 0) := by show ¬ g.ins < 0; omega
  have c2 : ¬ (65536 < (⟨g.ins, K, [], []⟩ : Aig).ins ∨ 65536 < (⟨g.ins, K, [], []⟩ : Aig).count ∨ 65536 < (((⟨g.ins, K, [], []⟩ : Aig).outs.length : Nat) : Int)) := by
   rw [hcnt]; show ¬ (65536 < g.ins ∨ 65536 < g.ins + K.length ∨ 65536 < (([] : List Int).length : Int))
   have : (([] : List Int).length : Int) = 0 := rfl
   omega
  rw [if_neg c1, if_neg c2, if_pos hgd]
 refine ⟨⟨hf, hck, ?_⟩, hcnt, fun x hxl => ?_, ?_⟩
 ·show List.replicate _ _ = Aig.levs (List.replicate _ _) []
  rfl
 ·have := hl x hxl
  simp only [Aig.lit, litN_iff, hcnt]; omega
 ·rw [l1]; simp only [Aig.first]; omega
theorem move_lit {m : Aig} {lits : List Int} {a : Int} (h : ∀ x ∈ lits, m.lit x = true) (h0 : 0 ≤ a) (h1 : (a / 2).toNat < lits.length) : m.lit (moveL lits a) = true := by
 have e : lits.getD (a / 2).toNat 0 = lits[(a / 2).toNat] := by simp [List.getD_eq_getElem?_getD, h1]
 unfold moveL
 rw [e]
 split
 ·exact h _ (List.getElem_mem h1)
 ·exact turn_lit (h _ (List.getElem_mem h1))
structure HInv (g : Aig) (s : Nat → Option Bool) (i : Nat) (b : B) : Prop extends Bd b where
 few : b.g.ands.length ≤ i
 flops : b.g.flops = (bgAt g s g.flops.length).2
 ins : b.g.ins = g.ins
 outs : b.g.outs = []
 len : b.lits.length = g.first.toNat + i
 lits : ∀ x ∈ b.lits, b.g.lit x = true
theorem HInv.cnt {g : Aig} (hg : Sml g) {s : Nat → Option Bool} {i : Nat} (hi : i ≤ g.ands.length) {b : B} (h : HInv g s i b) : b.g.count ≤ 1000 := by
 have h1 := hg.ins
 have h2 := hg.flops
 have h3 := hg.ands
 have h4 := h.few
 have h5 := (bg_length g s g.flops.length).2
 simp only [Aig.count, h.ins, h.flops]; omega
theorem gate_bounds {g : Aig} (hg : Sml g) {i : Nat} (hi : i < g.ands.length) : (0 ≤ g.ands[i].1 ∧ g.ands[i].1 < 2 * (g.first + i)) ∧ 0 ≤ g.ands[i].2 ∧ g.ands[i].2 < 2 * (g.first + i) :=
 (gatesOk_iff.1 hg.fine.gok) i hi
theorem hash_inv {g : Aig} (hg : Sml g) (s : Nat → Option Bool) : ∀ i, i ≤ g.ands.length → HInv g s i (hashAt g s i)
 | 0, _ => by
  obtain ⟨h1, h2, h3, h4⟩ := bgn_bd hg s
  exact ⟨h1, by show ([] : List (Int × Int)).length ≤ 0; simp, rfl, rfl, rfl, h4, h3⟩
 | i + 1, hi => by
  have ih := hash_inv hg s i (by omega)
  have hc := ih.cnt hg (by omega)
  obtain ⟨⟨a1, a2⟩, a3, a4⟩ := gate_bounds hg (show i < g.ands.length by omega)
  have hlo := hg.lo
  have hf : 1 ≤ g.first := by unfold Aig.first; omega
  have e : g.ands.getD i (0, 0) = g.ands[i] := by simp [List.getD_eq_getElem?_getD, show i < g.ands.length by omega]
  unfold hashAt
  simp only [e]
  have x1 := move_lit ih.lits a1 (by rw [ih.len]; omega)
  have x2 := move_lit ih.lits a3 (by rw [ih.len]; omega)
  obtain ⟨k0, k1, k2, k3, k4, k5⟩ := andB_ok ih.toBd x1 x2 (by omega)
  refine ⟨⟨k1.fine, k1.chk, k1.lev⟩, by have := ih.few; simp only; omega, by simp only; rw [k3.flops, ih.flops], by simp only; rw [k3.ins, ih.ins], by simp only; rw [k3.outs, ih.outs], by simp [ih.len]; omega, fun x hx => ?_⟩
  simp only at hx ⊢
  rcases List.mem_append.1 hx with q | q
  ·exact k3.lit (ih.lits x q)
  ·simp at q; subst q; exact k2
end Fil.Rw

namespace Go.Proofs.Ytapnlmhfacoceaa
open Abs Fil Fil.Rw
open Eqv (moveL)
theorem fr4_all {σ : Sig} {a b c d : Nat} (h : Fr4 σ a b c d) : (¬ a = b ∧ ¬ b = a ∧ ¬ a = c ∧ ¬ c = a ∧ ¬ a = d ∧ ¬ d = a) ∧ (¬ b = c ∧ ¬ c = b ∧ ¬ b = d ∧ ¬ d = b ∧ ¬ c = d ∧ ¬ d = c) ∧ (σ a = none ∧ σ b = none ∧ σ c = none ∧ σ d = none) :=
 ⟨⟨h.ab, h.ba, h.ac, h.ca, h.ad, h.da⟩, ⟨h.bc, h.cb, h.bd, h.db, h.cd, h.dc⟩, h.ha, h.hb, h.hc, h.hd⟩
theorem StOk.up {σ τ : Sig} {st : AV} {n : Nat} {s : Nat → Option Bool} (h : StOk σ st n s) (hs : ∀ q x, σ q = some x → τ q = some x) : StOk τ st n s := by
 rcases h with h | ⟨om, d, m, h1, h2, h3⟩
 ·exact .inl h
 ·exact .inr ⟨om, d, m, h1, hs _ _ h2, h3⟩
set_option maxRecDepth 20000 in
set_option maxHeartbeats 4000000 in
theorem rw_hashed (g : Aig) (s : Nat → Option Bool) (st : AV) (σ : Sig) (hst : StOk σ st g.flops.length s) (hg : Sml g) :
  ACalls Try.prog 48 [encAig g, st] σ (fun r σ' => r = .ret (encAig (Rw.hashed g s)) ∧ σ' = σ) := by
 refine calls_x mixed Try.func48 b48 n48 rfl q48 (by simp) ?_; unfold c48 r48
 have hlo := hg.lo
 have h1 := hg.ins
 have h2 := hg.flops
 have h3 := hg.ands
 repeat' (first | simp (maxDischargeDepth := 9) -implicitDefEqProofs -dsimp only [go_sem, seval, *] | ((with_reducible refine Zt (fun oF hoF hnF hnF' => ?_)); (try simp only [upd_none, ne_eq, not_and] at hoF)))
 obtain ⟨oR, eR⟩ : ∃ x, x = oF := ⟨oF, rfl⟩
 subst eR
 refine ACalls.new4 (rw_begin g s st _ ?_ hlo (by omega) (by omega)) ?_
 ·refine hst.up fun q x hq => ?_
  have : ¬ q = oR := hnF q (by rw [hq]; simp)
  simp only [upd, this, if_false]; exact hq
 intro oB oL oV oP hfr
 obtain ⟨f1, f2, f3⟩ := fr4_all hfr
 have hold := hfr.old
 simp only [upd_none] at f3
 repeat' simp (maxDischargeDepth := 9) -implicitDefEqProofs -dsimp only [go_sem, seval, *]
 have hkl := (bg_len g s g.flops.length).2
 refine loop_rule (fun i : Nat => [(14, some (.int .i64 i)), (13, some (.int .i64 g.ands.length)), (12, some (.slice (g.ands.map encGate) .no)), (5, some (.ptr oB 0)), (1, some st), (4, some (.ptr oR 0))])
  (fun i => upd (upd (upd (upd (upd σ oR (.cells [.int .i64 0, .slice [] .nil, .slice [] .nil, .slice [] .nil])) oB (bldC g (hashAt g s i).g (flV oP (hashAt g s i).g.flops) .no .nil (ilist (hashAt g s i).lits (.own oL)) (ilist (hashAt g s i).lev (.own oV)))) oL (.grow 1 (hashAt g s i).lits.length)) oV (.grow 1 (hashAt g s i).lev.length)) oP (flO (hashAt g s i).g.flops))
  (fun i => i ≤ g.ands.length) (fun i => g.ands.length - i) 0 ?_ ?_
 ·have e0 : hashAt g s 0 = bgn g s := rfl
  have e1 : (bgn g s).g.ands = [] := rfl
  have e2 : (bgn g s).g.outs = [] := rfl
  (repeat' simp (maxDischargeDepth := 9) -implicitDefEqProofs -dsimp only [go_sem, seval, e0, e1, e2, List.map_nil, *]) <;> (first | omega | skip)
 ·intro i hi
  have inv := hash_inv hg s i hi
  have hc := inv.cnt hg hi
  have hout := inv.outs
  have hlev := inv.toBd.bound
  have hll := inv.toBd.llen
  have hwf := inv.fine.toWf
  have hlit := inv.lits
  have hlen := inv.len
  have hfs := inv.flops
  have hfst : g.first.toNat ≤ 200 := by simp only [Aig.first]; omega
  by_cases hlt : i < g.ands.length
  ·have hlt' : (i : Int) < g.ands.length := by omega
   obtain ⟨⟨a1, a2⟩, a3, a4⟩ := gate_bounds hg hlt
   have hgd : g.ands.getD i (0, 0) = g.ands[i] := by simp [List.getD_eq_getElem?_getD, hlt]
   have x1 := move_lit hlit a1 (by rw [hlen]; omega)
   have x2 := move_lit hlit a3 (by rw [hlen]; omega)
   obtain ⟨k0, k1, k2, k3, k4, k5⟩ := andB_ok inv.toBd x1 x2 (by omega)
   have hnx : hashAt g s (i + 1) = { (andB (hashAt g s i) (moveL (hashAt g s i).lits g.ands[i].1) (moveL (hashAt g s i).lits g.ands[i].2)).1 with lits := (hashAt g s i).lits ++ [(andB (hashAt g s i) (moveL (hashAt g s i).lits g.ands[i].1) (moveL (hashAt g s i).lits g.ands[i].2)).2] } := by
    conv => lhs; unfold hashAt
    simp only [hgd]
   obtain ⟨b, hbe⟩ : ∃ b, hashAt g s i = b := ⟨_, rfl⟩
   rw [hbe] at hnx hout hlev hll hwf hlit hlen hfs x1 x2 k0 k1 k2 k3 k4 k5 hc ⊢
   have hl2 : ∀ x ∈ b.lits, 0 ≤ x ∧ x ≤ 1000000 := fun x hx => by
    have := litN_iff.1 (hlit x hx); omega
   have p1 := litN_iff.1 x1
   have p2 := litN_iff.1 x2
   have hlc := fun a h0 h1 h2 τ hB => rw_lit oB (.int .i64 g.ins) (.slice (g.flops.map encFlop) .no) (.slice (g.ands.map encGate) .no) (.slice (g.outs.map encInt) .no) (.int .i64 b.g.ins) (flV oP b.g.flops) (.slice (b.g.ands.map encGate) .no) (.slice (b.g.outs.map encInt) .nil) (ilist b.lev (.own oV)) b.lits (.own oL) a τ hB h0 h1 hl2 h2
   have hl1 := hlc g.ands[i].1 a1 (by rw [hlen]; omega) (by omega)
   have hl3 := hlc g.ands[i].2 a3 (by rw [hlen]; omega) (by omega)
   have hand := fun τ hB hp hV => rw_and oB oP oV g b (moveL b.lits g.ands[i].1) (moveL b.lits g.ands[i].2) .nil (ilist b.lits (.own oL)) τ hB rfl rfl hp hV f1.2.2.2.2.1 f1.2.2.2.2.2 f1.2.2.1 f1.2.2.2.1 f2.2.2.2.2.2 f2.2.2.2.2.1 hwf p1.1 (by omega) p2.1 (by omega) hlev (by omega) k0 (by omega) (by omega)
   have hfe := k3.flops
   have hie := k3.ins
   have hoe := k3.outs
   have hll2 : b.lits.length ≤ 1000 := by omega
   obtain ⟨u, hu⟩ : ∃ u, moveL b.lits g.ands[i].1 = u := ⟨_, rfl⟩
   obtain ⟨v, hv⟩ : ∃ v, moveL b.lits g.ands[i].2 = v := ⟨_, rfl⟩
   rw [hu] at hl1
   rw [hv] at hl3
   rw [hu, hv] at hand hnx hfe hie hoe k5
   obtain ⟨⟨b', z⟩, hr⟩ : ∃ r, andB b u v = r := ⟨_, rfl⟩
   rw [hr] at hand hnx hfe hie hoe k5
   simp only at hand hnx hfe hie hoe k5
   have c1 := flV_cells oP b.g.flops
   have c2 := flV_one oP b.g.flops
   obtain ⟨F, hF⟩ : ∃ F, flV oP b.g.flops = F := ⟨_, rfl⟩
   obtain ⟨FO, hFO⟩ : ∃ F, flO b.g.flops = F := ⟨_, rfl⟩
   rw [hF] at hl1 hl3 hand c1 c2 ⊢
   rw [hFO] at hand ⊢
   clear hout hlc k0 k1 k2 k3 k4 hlev hll hwf hlit hlen hfs hl2 p1 p2 x1 x2 inv hst hr a1 a2 a3 a4 hgd hbe
   repeat' (first | simp (maxDischargeDepth := 9) -implicitDefEqProofs -dsimp only [go_sem, seval, *] | simp (disch := omega) only [wrap64] | ((with_reducible refine Zv ?_ ?_); focus (first | omega | exact rfl)) | ((with_reducible refine Zu ?_ ?_); focus omega) | ((with_reducible refine Zt (fun oF hoF hnF hnF' => ?_)); (try simp only [upd_none, ne_eq, not_and] at hoF)) | ((with_reducible apply id_one0); (focus (intro tS hS; ((first | with_reducible refine hl1 _ ?_ | with_reducible refine hl3 _ ?_) <;> (first | (simp (maxDischargeDepth := 9) -implicitDefEqProofs -dsimp only [go_sem, seval, *]; done) | omega | ((with_reducible refine Sub.get hS ?_); simp (maxDischargeDepth := 9) -implicitDefEqProofs -dsimp only [go_sem, seval, *]; done))))); (focus (first | trivial | (simp (maxDischargeDepth := 9) -implicitDefEqProofs -dsimp only [go_sem, seval, *]; done)))) | ((with_reducible apply id_one2); (focus (intro tS hS; ((with_reducible refine hand _ ?_ ?_ ?_) <;> (first | (simp (maxDischargeDepth := 9) -implicitDefEqProofs -dsimp only [go_sem, seval, *]; done) | omega | ((with_reducible refine Sub.get hS ?_); simp (maxDischargeDepth := 9) -implicitDefEqProofs -dsimp only [go_sem, seval, *]; done))))); (focus (first | trivial | (simp (maxDischargeDepth := 9) -implicitDefEqProofs -dsimp only [go_sem, seval, *]; done)))))
   refine loop_next _ _ _ _ (i + 1) ?_; (repeat' simp (maxDischargeDepth := 9) -implicitDefEqProofs -dsimp only [go_sem, seval,  ilist, List.map_append, List.map_cons, List.map_nil, List.length_append, List.length_cons, List.length_nil, *]) <;> (repeat' refine And.intro ?_ ?_) <;> (first | omega | skip)
  ·have hlt' : ¬ (i : Int) < g.ands.length := by omega
   have ei : i = g.ands.length := by omega
   subst ei
   have hnx : ∀ f ∈ g.flops, 0 ≤ f.next ∧ (f.next / 2).toNat < (hashAt g s g.ands.length).lits.length ∧ f.next ≤ 1000000 := fun f hf => by
    have := good_flops hg.good hf
    have cf := count_first g
    rw [hlen]; simp only [Aig.first] at cf ⊢; omega
   have hol : ∀ a ∈ g.outs, 0 ≤ a ∧ (a / 2).toNat < (hashAt g s g.ands.length).lits.length ∧ a ≤ 1000000 := fun a ha => by
    have := good_outs hg.good ha
    have cf := count_first g
    rw [hlen]; simp only [Aig.first] at cf ⊢; omega
   have hl2 : ∀ x ∈ (hashAt g s g.ands.length).lits, 0 ≤ x ∧ x ≤ 1000000 := fun x hx => by
    have := litN_iff.1 (hlit x hx); omega
   have hO := hg.outs
   have hend := fun τ st' hst' hB hp => rw_end oB oP g s st (hashAt g s g.ands.length) .no (.own oL) (ilist (hashAt g s g.ands.length).lev (.own oV)) τ st' hst' hB hp rfl rfl f1.2.2.2.2.1 f1.2.2.2.2.2 hfs hout (by omega) (by omega) hl2 hnx hol
   have e0 : endB g s (hashAt g s g.ands.length) = Rw.hashed g s := rfl
   rw [e0] at hend
   obtain ⟨b, hbe⟩ : ∃ b, hashAt g s g.ands.length = b := ⟨_, rfl⟩
   rw [hbe] at hend hout ⊢
   clear hnx hol hl2 inv hc hlev hll hwf hlit hlen hfs
   repeat' simp (maxDischargeDepth := 9) -implicitDefEqProofs -dsimp only [go_sem, seval, *]
   refine ACalls.one (hend _ (upd σ oR (.cells [.int .i64 0, .slice [] .nil, .slice [] .nil, .slice [] .nil])) ?_ ?_ ?_ ?_) ?_
   ·refine hst.up fun q x hq => ?_
    have q0 : ¬ q = oR := hnF q (by rw [hq]; simp)
    obtain ⟨q1, _, q2, _, q3, _, q4, _⟩ := hold q (by simp only [upd, q0, if_false, hq]; simp)
    simp only [upd, q0, q1, q2, q3, q4, if_false]; exact hq
   ·simp only [bldC, hout, List.map_nil]
    simp (maxDischargeDepth := 9) -implicitDefEqProofs -dsimp only [go_sem, seval, *]
   ·simp (maxDischargeDepth := 9) -implicitDefEqProofs -dsimp only [go_sem, seval, *]
   ·intro q x hq
    have q1 : ¬ q = oB := (hold q (by rw [hq]; simp)).1
    have q2 : ¬ q = oL := (hold q (by rw [hq]; simp)).2.2.1
    have q3 : ¬ q = oV := (hold q (by rw [hq]; simp)).2.2.2.2.1
    have q4 : ¬ q = oP := (hold q (by rw [hq]; simp)).2.2.2.2.2.2.1
    refine ⟨?_, q1, q4⟩
    simp only [upd, q1, q2, q3, q4, if_false] at hq ⊢
    exact hq
   ·repeat' simp (maxDischargeDepth := 9) -implicitDefEqProofs -dsimp only [go_sem, seval, *]
    refine fin_eq ?_
    (repeat' simp (maxDischargeDepth := 9) -implicitDefEqProofs -dsimp only [go_sem, seval, *])
def hashM (g : Aig) : Aig := Rw.hashed g fun _ => none
theorem rw_Hash (g : Aig) (σ : Sig) (hg : Sml g) : ACalls Try.prog 17 [encAig g] σ (fun r σ' => r = .ret (.tup [encAig (hashM g), .int .i64 0]) ∧ σ' = σ) := by
 refine calls_x mixed Try.func17 b17 n17 rfl q17 (by simp) ?_; unfold c17 r17
 have ez : ((0 : Int) != 0) = false := by decide
 have hck := fun τ => A.aig_Check g τ hg.wf
 rw [hg.chk] at hck
 have hh := fun τ => rw_hashed g (fun _ => none) .nilmap τ (.inl ⟨rfl, fun _ => rfl⟩) hg
 repeat' (first | simp (maxDischargeDepth := 9) -implicitDefEqProofs -dsimp only [go_sem, seval, *] | ((with_reducible refine Zt (fun oF hoF hnF hnF' => ?_)); (try simp only [upd_none, ne_eq, not_and] at hoF)) | ((with_reducible apply ACalls.one1); (focus ((first | with_reducible refine hck _ | with_reducible refine hh _) <;> (first | (simp (maxDischargeDepth := 9) -implicitDefEqProofs -dsimp only [go_sem, seval, *]; done) | omega))); (focus (first | trivial | with_reducible exact rfl | (simp (maxDischargeDepth := 9) -implicitDefEqProofs -dsimp only [go_sem, seval]; done)))))
 refine fin_eq ?_
 (repeat' simp (maxDischargeDepth := 9) -implicitDefEqProofs -dsimp only [go_sem, seval, hashM, *])
theorem rw_Hash_err (g : Aig) (e : Int) (σ : Sig) (hs : Wf g) (he : g.check = e) (h0 : e ≠ 0) : ACalls Try.prog 17 [encAig g] σ (fun r σ' => r = .ret (.tup [encAig ⟨0, [], [], []⟩, .int .i64 e]) ∧ σ' = σ) := by
 refine calls_x mixed Try.func17 b17 n17 rfl q17 (by simp) ?_; unfold c17 r17
 have hb : (e != 0) = true := by simpa using h0
 have hck := fun τ => A.aig_Check g τ hs
 rw [he] at hck
 repeat' (first | simp (maxDischargeDepth := 9) -implicitDefEqProofs -dsimp only [go_sem, seval, *] | ((with_reducible refine Zt (fun oF hoF hnF hnF' => ?_)); (try simp only [upd_none, ne_eq, not_and] at hoF)) | ((with_reducible apply ACalls.one1); (focus ((with_reducible refine hck _) <;> (first | (simp (maxDischargeDepth := 9) -implicitDefEqProofs -dsimp only [go_sem, seval, *]; done) | omega))); (focus (first | trivial | with_reducible exact rfl | (simp (maxDischargeDepth := 9) -implicitDefEqProofs -dsimp only [go_sem, seval]; done)))))
 refine fin_eq ?_
 (repeat' simp (maxDischargeDepth := 9) -implicitDefEqProofs -dsimp only [go_sem, seval, List.map_nil, *])
end Go.Proofs.Ytapnlmhfacoceaa

namespace Fil.Rw
open Abs
def encK {α : Type} (f : α → AV) (l : List (Int × α)) : List (AV × AV) := l.map fun p => (.int .i64 p.1, f p.2)
def gk {α : Type} : List (Int × α) → Int → Option α
 | [], _ => none
 | p :: r, x => if p.1 = x then some p.2 else gk r x
def sk {α : Type} : List (Int × α) → Int → α → List (Int × α)
 | [], x, v => [(x, v)]
 | p :: r, x, v => if p.1 = x then (x, v) :: r else p :: sk r x v
def dk {α : Type} : List (Int × α) → Int → List (Int × α)
 | [], _ => []
 | p :: r, x => if p.1 = x then r else p :: dk r x
def xk {α : Type} : List (Int × α) → Int → Nat
 | [], _ => 0
 | p :: r, x => if p.1 = x then 0 else xk r x + 1
section
variable {α : Type} (f : α → AV)
theorem encK_nil : encK f [] = [] := rfl
theorem encK_len (l : List (Int × α)) : (encK f l).length = l.length := by simp [encK]
theorem eq_key (x y : Int) : eqKey (.one 0) (.int .i64 x) (.int .i64 y) = some (decide (y = x)) := by
 simp only [eqKey, eq1, if_true]
 by_cases c : y = x
 ·subst c; simp
 ·have c' : ¬ x = y := fun e => c e.symm
  simp [c, c']
theorem look_k (x : Int) : ∀ l : List (Int × α), lookK (.one 0) (.int .i64 x) (encK f l) = some ((gk l x).map f)
 | [] => rfl
 | p :: r => by
  have ih := look_k x r
  simp only [encK, List.map_cons, lookK, eq_key, gk] at ih ⊢
  by_cases c : p.1 = x
  ·simp [c]
  ·simp [c, ih]
theorem set_k (x : Int) (v : α) : ∀ l : List (Int × α), setK (.one 0) (.int .i64 x) (f v) (encK f l) = some (encK f (sk l x v))
 | [] => rfl
 | p :: r => by
  have ih := set_k x v r
  simp only [encK, List.map_cons, setK, eq_key, sk] at ih ⊢
  by_cases c : p.1 = x
  ·simp [c]
  ·simp [c, ih]
theorem del_k (x : Int) : ∀ l : List (Int × α), delK (.one 0) (.int .i64 x) (encK f l) = some (encK f (dk l x))
 | [] => rfl
 | p :: r => by
  have ih := del_k x r
  simp only [encK, List.map_cons, delK, eq_key, dk] at ih ⊢
  by_cases c : p.1 = x
  ·simp [c]
  ·simp [c, ih]
theorem ent_k (x : Int) (z : α) : ∀ l : List (Int × α), entK (.one 0) (.int .i64 x) (f z) (encK f l) = some (f ((gk l x).getD z), xk l x, encK f (sk l x ((gk l x).getD z)))
 | [] => rfl
 | p :: r => by
  have ih := ent_k x z r
  simp only [encK, List.map_cons, entK, eq_key, sk, gk, xk] at ih ⊢
  by_cases c : p.1 = x
  ·simp [c]
  ·simp [c, ih]
theorem mod_k (x : Int) (u v : α) : ∀ l : List (Int × α), (encK f (sk l x u)).modify (xk l x) (fun p => (p.1, f v)) = encK f (sk l x v)
 | [] => rfl
 | p :: r => by
  have ih := mod_k x u v r
  unfold xk sk
  by_cases c : p.1 = x
  ·simp [c, encK]
  ·simp only [c, if_false]
   simp only [encK, List.map_cons, List.modify_succ_cons] at ih ⊢
   rw [ih]
theorem mod_k' (x : Int) (u v : α) (l : List (Int × α)) : (encK f (sk l x u)).modify ((xk l x : Nat) : Int).toNat (fun p => (p.1, f v)) = encK f (sk l x v) := by
 rw [Int.toNat_natCast]; exact mod_k f x u v l
end
theorem gk_sk {α : Type} (x y : Int) (v : α) : ∀ l : List (Int × α), gk (sk l x v) y = if y = x then some v else gk l y
 | [] => by
  simp only [sk, gk]
  by_cases c : x = y
  ·simp [c]
  ·have c' : ¬ y = x := fun e => c e.symm
   simp [c, c']
 | p :: r => by
  have ih := gk_sk x y v r
  unfold sk
  by_cases c : p.1 = x
  ·rw [if_pos c]; simp only [gk]
   by_cases d : x = y
   ·simp [d]
   ·have d' : ¬ y = x := fun e => d e.symm
    simp [d, d', c]
  ·rw [if_neg c]; simp only [gk, ih]
   by_cases d : p.1 = y
   ·subst d; simp [c]
   ·simp [d]
def Uq {α : Type} (l : List (Int × α)) : Prop := (l.map (·.1)).Nodup
theorem sk_keys {α : Type} {x y : Int} {v : α} : ∀ {l : List (Int × α)}, y ∈ (sk l x v).map (·.1) → y = x ∨ y ∈ l.map (·.1)
 | [], h => by simp [sk] at h; exact .inl h
 | p :: r, h => by
  unfold sk at h
  by_cases c : p.1 = x
  ·rw [if_pos c] at h
   simp only [List.map_cons, List.mem_cons] at h ⊢
   rcases h with h | h
   ·exact .inl h
   ·exact .inr (.inr h)
  ·rw [if_neg c] at h
   simp only [List.map_cons, List.mem_cons] at h ⊢
   rcases h with h | h
   ·exact .inr (.inl h)
   ·rcases sk_keys h with h | h
    ·exact .inl h
    ·exact .inr (.inr h)
theorem Uq.sk {α : Type} {x : Int} {v : α} : ∀ {l : List (Int × α)}, Uq l → Uq (sk l x v)
 | [], _ => by simp [Rw.sk, Uq]
 | p :: r, h => by
  unfold Uq at h ⊢
  simp only [List.map_cons, List.nodup_cons] at h
  unfold Rw.sk
  by_cases c : p.1 = x
  ·rw [if_pos c]
   simp only [List.map_cons, List.nodup_cons]
   exact ⟨by rw [← c]; exact h.1, h.2⟩
  ·rw [if_neg c]
   simp only [List.map_cons, List.nodup_cons]
   refine ⟨fun hm => ?_, Uq.sk (l := r) h.2⟩
   rcases sk_keys hm with e | e
   ·exact c e
   ·exact h.1 e
theorem dk_sub {α : Type} {x y : Int} : ∀ {l : List (Int × α)}, y ∈ (dk l x).map (·.1) → y ∈ l.map (·.1)
 | [], h => h
 | p :: r, h => by
  unfold dk at h
  by_cases c : p.1 = x
  ·rw [if_pos c] at h; exact List.mem_cons_of_mem _ h
  ·rw [if_neg c] at h
   simp only [List.map_cons, List.mem_cons] at h ⊢
   rcases h with h | h
   ·exact .inl h
   ·exact .inr (dk_sub h)
theorem Uq.dk {α : Type} {x : Int} : ∀ {l : List (Int × α)}, Uq l → Uq (dk l x)
 | [], h => h
 | p :: r, h => by
  unfold Uq at h ⊢
  simp only [List.map_cons, List.nodup_cons] at h
  unfold Rw.dk
  by_cases c : p.1 = x
  ·rw [if_pos c]; exact h.2
  ·rw [if_neg c]
   simp only [List.map_cons, List.nodup_cons]
   exact ⟨fun hm => h.1 (dk_sub hm), Uq.dk (l := r) h.2⟩
attribute [go_sem] look_k set_k del_k ent_k mod_k' encK_len
end Fil.Rw

namespace Fil.Rw
open Abs
open Eqv (moveL)
def rts (g : Aig) : List Int := g.outs ++ g.flops.map (·.next)
def mark (v : List Bool) (l : List Int) : List Bool := l.foldl (fun v a => v.set (a / 2).toNat true) v
def ndAt (g : Aig) : Nat → List Bool
 | 0 => mark (List.replicate (1 + g.count).toNat false) (rts g)
 | k + 1 =>
  let i := g.ands.length - 1 - k
  let x := g.ands.getD i (0, 0)
  let n := ndAt g k
  if n.getD (g.first + i).toNat false then mark n [x.1, x.2] else n
def ndG (g : Aig) (n : Nat) : Bool := (ndAt g g.ands.length).getD n false
def swAt (g : Aig) : Nat → B
 | 0 => bgn g fun _ => none
 | i + 1 =>
  let b := swAt g i
  let x := g.ands.getD i (0, 0)
  if ndG g (g.first + i).toNat then
   let L := b.lits ++ [2 * (g.first + b.g.ands.length)]
   ⟨{ b.g with ands := b.g.ands ++ [(moveL L x.1, moveL L x.2)] }, L, b.lev⟩
  else ⟨b.g, b.lits ++ [0], b.lev⟩
def sweep (g : Aig) : Aig := endB g (fun _ => none) (swAt g g.ands.length)
theorem mark_len : ∀ (l : List Int) (v : List Bool), (mark v l).length = v.length
 | [], v => rfl
 | a :: l, v => by
  have := mark_len l (v.set (a / 2).toNat true)
  simpa [mark] using this
theorem ndAt_len (g : Aig) : ∀ k, (ndAt g k).length = (1 + g.count).toNat
 | 0 => by simp [ndAt, mark_len]
 | k + 1 => by
  have := ndAt_len g k
  unfold ndAt
  simp only
  split
  ·rw [mark_len]; exact this
  ·exact this
theorem getD_set (v : List Bool) (i n : Nat) : (v.set i true).getD n false = ((v.getD n false) || (decide (i = n) && decide (i < v.length))) := by
 simp only [List.getD_eq_getElem?_getD, List.getElem?_set]
 by_cases h : i = n
 ·subst h
  by_cases h2 : i < v.length
  ·simp [h2]
  ·simp [h2]
 ·simp [h]
theorem mark_get (n : Nat) : ∀ (l : List Int) (v : List Bool), (mark v l).getD n false = true ↔ v.getD n false = true ∨ (n < v.length ∧ ∃ a ∈ l, (a / 2).toNat = n)
 | [], v => by simp [mark]
 | a :: l, v => by
  have ih := mark_get n l (v.set (a / 2).toNat true)
  have e : mark v (a :: l) = mark (v.set (a / 2).toNat true) l := rfl
  rw [e, ih, getD_set, List.length_set]
  simp only [Bool.or_eq_true, Bool.and_eq_true, decide_eq_true_eq, List.mem_cons, exists_eq_or_imp]
  constructor
  ·rintro ((h | ⟨h1, h2⟩) | h)
   ·exact .inl h
   ·exact .inr ⟨by omega, .inl h1⟩
   ·exact .inr ⟨h.1, .inr h.2⟩
  ·rintro (h | ⟨h1, h2 | h2⟩)
   ·exact .inl (.inl h)
   ·exact .inl (.inr ⟨h2, by omega⟩)
   ·exact .inr ⟨h1, h2⟩
theorem ndAt_mono {g : Aig} {n : Nat} : ∀ {k j : Nat}, k ≤ j → (ndAt g k).getD n false = true → (ndAt g j).getD n false = true := fun {k j} h hn => by
 induction j with
 | zero => rw [show k = 0 by omega] at hn; exact hn
 | succ j ih =>
  by_cases e : k = j + 1
  ·rw [← e]; exact hn
  ·have := ih (by omega)
   unfold ndAt
   simp only
   split
   ·exact (mark_get _ _ _).2 (.inl this)
   ·exact this
theorem ands_getD {g : Aig} {i : Nat} (h : i < g.ands.length) : g.ands.getD i (0, 0) = g.ands[i] := by simp [List.getD_eq_getElem?_getD, h]
theorem root_lit {g : Aig} (hg : Sml g) {a : Int} (ha : a ∈ rts g) : 0 ≤ a ∧ a < 2 * (1 + g.count) := by
 unfold rts at ha
 rcases List.mem_append.1 ha with h | h
 ·exact good_outs hg.good h
 ·obtain ⟨f, hf, rfl⟩ := List.mem_map.1 h
  exact good_flops hg.good hf
theorem ndAt_late {g : Aig} (hg : Sml g) {i : Nat} (hi : i < g.ands.length) : ∀ {k : Nat}, g.ands.length - 1 - i ≤ k → k ≤ g.ands.length → (ndAt g k).getD (g.first + i).toNat false = true → (ndAt g (g.ands.length - 1 - i)).getD (g.first + i).toNat false = true := fun {k} h hk hn => by
 induction k with
 | zero => rw [show g.ands.length - 1 - i = 0 by omega]; exact hn
 | succ k ih =>
  by_cases e : g.ands.length - 1 - i = k + 1
  ·rw [e]; exact hn
  ·refine ih (by omega) (by omega) ?_
   unfold ndAt at hn
   simp only at hn
   split at hn
   ·rcases (mark_get _ _ _).1 hn with q | ⟨_, a, ha, q⟩
    ·exact q
    ·exfalso
     have hj : g.ands.length - 1 - k < g.ands.length := by omega
     have hb := gate_bounds hg hj
     rw [ands_getD hj] at ha
     simp only [List.mem_cons, List.not_mem_nil, or_false] at ha
     have hlo := hg.lo
     have hf : 1 ≤ g.first := by unfold Aig.first; omega
     rcases ha with rfl | rfl <;> omega
   ·exact hn
theorem nd_root {g : Aig} (hg : Sml g) {a : Int} (ha : a ∈ rts g) : ndG g (a / 2).toNat = true := by
 refine ndAt_mono (Nat.zero_le _) ?_
 have := root_lit hg ha
 exact (mark_get _ _ _).2 (.inr ⟨by rw [List.length_replicate]; omega, a, ha, rfl⟩)
theorem nd_step {g : Aig} (hg : Sml g) {i : Nat} (hi : i < g.ands.length) (h : ndG g (g.first + i).toNat = true) : ndG g (g.ands[i].1 / 2).toNat = true ∧ ndG g (g.ands[i].2 / 2).toNat = true := by
 have h1 := ndAt_late hg hi (k := g.ands.length) (by omega) (Nat.le_refl _) h
 have hb := gate_bounds hg hi
 have e : g.ands.length - 1 - (g.ands.length - 1 - i) = i := by omega
 have cf := count_first g
 have hstep : ∀ a, a = g.ands[i].1 ∨ a = g.ands[i].2 → ndG g (a / 2).toNat = true := fun a ha => by
  refine ndAt_mono (show g.ands.length - 1 - i + 1 ≤ g.ands.length by omega) ?_
  unfold ndAt
  simp only [e, ands_getD hi]
  rw [if_pos h1]
  refine (mark_get _ _ _).2 (.inr ⟨?_, a, ?_, rfl⟩)
  ·rw [ndAt_len]
   rcases ha with rfl | rfl <;> omega
  ·rcases ha with rfl | rfl <;> simp
 exact ⟨hstep _ (.inl rfl), hstep _ (.inr rfl)⟩
theorem nd_least {g : Aig} (hg : Sml g) (Q : Nat → Prop) (h0 : ∀ a ∈ rts g, Q (a / 2).toNat) (h1 : ∀ i, (h : i < g.ands.length) → Q (g.first + i).toNat → Q (g.ands[i].1 / 2).toNat ∧ Q (g.ands[i].2 / 2).toNat) {n : Nat} (h : ndG g n = true) : Q n := by
 have : ∀ k, k ≤ g.ands.length → ∀ n, (ndAt g k).getD n false = true → Q n := fun k => by
  induction k with
  | zero =>
   intro _ n hn
   rcases (mark_get _ _ _).1 hn with q | ⟨_, a, ha, rfl⟩
   ·simp [List.getD_eq_getElem?_getD, List.getElem?_replicate] at q
    split at q <;> simp at q
   ·exact h0 a ha
  | succ k ih =>
   intro hk n hn
   unfold ndAt at hn
   simp only at hn
   split at hn
   ·rename_i hc
    rcases (mark_get _ _ _).1 hn with q | ⟨_, a, ha, rfl⟩
    ·exact ih (by omega) n q
    ·have hi : g.ands.length - 1 - k < g.ands.length := by omega
     have := h1 _ hi (ih (by omega) _ hc)
     rw [ands_getD hi] at ha
     simp only [List.mem_cons, List.not_mem_nil, or_false] at ha
     rcases ha with rfl | rfl
     ·exact this.1
     ·exact this.2
   ·exact ih (by omega) n hn
 exact this _ (Nat.le_refl _) n h
def Cov (g : Aig) (l : List Int) (m : List (Int × Bool)) (a : Int) : Prop := a / 2 < g.first ∨ gk m (a / 2) = some true ∨ ∃ b ∈ l, b / 2 = a / 2
structure SwI (g : Aig) (l : List Int) (m : List (Int × Bool)) : Prop where
 keys : ∀ n v, gk m n = some v → v = true ∧ g.first ≤ n ∧ n < 1 + g.count ∧ ndG g n.toNat = true
 stk : ∀ a ∈ l, 0 ≤ a ∧ a < 2 * (1 + g.count) ∧ ndG g (a / 2).toNat = true
 root : ∀ a ∈ rts g, Cov g l m a
 cl : ∀ i, (h : i < g.ands.length) → gk m (g.first + i) = some true → Cov g l m g.ands[i].1 ∧ Cov g l m g.ands[i].2
theorem sw_start {g : Aig} (hg : Sml g) : SwI g (rts g) [] :=
 ⟨fun n v h => by simp [gk] at h, fun a ha => ⟨(root_lit hg ha).1, (root_lit hg ha).2, nd_root hg ha⟩, fun a ha => .inr (.inr ⟨a, ha, rfl⟩), fun i h hk => by simp [gk] at hk⟩
theorem sw_skip {g : Aig} {l : List Int} {a : Int} {m : List (Int × Bool)} (h : SwI g (l ++ [a]) m) (hs : a / 2 < g.first ∨ gk m (a / 2) = some true) : SwI g l m := by
 have hc : ∀ x, Cov g (l ++ [a]) m x → Cov g l m x := fun x hx => by
  rcases hx with q | q | ⟨b, hb, q⟩
  ·exact .inl q
  ·exact .inr (.inl q)
  ·rcases List.mem_append.1 hb with r | r
   ·exact .inr (.inr ⟨b, r, q⟩)
   ·simp at r; subst r
    rw [q] at hs
    rcases hs with s | s
    ·exact .inl s
    ·exact .inr (.inl s)
 exact ⟨h.keys, fun x hx => h.stk x (List.mem_append_left _ hx), fun x hx => hc x (h.root x hx), fun i hi hk => ⟨hc _ (h.cl i hi hk).1, hc _ (h.cl i hi hk).2⟩⟩
theorem sw_take {g : Aig} (hg : Sml g) {l : List Int} {a : Int} {m : List (Int × Bool)} (h : SwI g (l ++ [a]) m) (h1 : g.first ≤ a / 2) {i : Nat} (he : a / 2 = g.first + i) (hi : i < g.ands.length) :
  SwI g (l ++ [g.ands[i].1, g.ands[i].2]) (sk m (a / 2) true) := by
 have hlo := hg.lo
 have cf := count_first g
 obtain ⟨s1, s2, s3⟩ := h.stk a (by simp)
 have hc : ∀ x, Cov g (l ++ [a]) m x → Cov g (l ++ [g.ands[i].1, g.ands[i].2]) (sk m (a / 2) true) x := fun x hx => by
  rcases hx with q | q | ⟨b, hb, q⟩
  ·exact .inl q
  ·refine .inr (.inl ?_)
   rw [gk_sk]; split
   ·rfl
   ·exact q
  ·rcases List.mem_append.1 hb with r | r
   ·exact .inr (.inr ⟨b, List.mem_append_left _ r, q⟩)
   ·simp at r; subst r
    refine .inr (.inl ?_)
    rw [gk_sk, if_pos q.symm]
 have hb := gate_bounds hg hi
 have hst := nd_step hg hi (by rw [← he]; exact s3)
 refine ⟨fun n v hk => ?_, fun x hx => ?_, fun x hx => hc x (h.root x hx), fun j hj hk => ?_⟩
 ·rw [gk_sk] at hk
  split at hk
  ·rename_i e
   subst e
   simp only [Option.some.injEq] at hk
   exact ⟨hk.symm, h1, by omega, s3⟩
  ·exact h.keys n v hk
 ·rcases List.mem_append.1 hx with r | r
  ·exact h.stk x (List.mem_append_left _ r)
  ·simp only [List.mem_cons, List.not_mem_nil, or_false] at r
   rcases r with rfl | rfl
   ·exact ⟨hb.1.1, by omega, hst.1⟩
   ·exact ⟨hb.2.1, by omega, hst.2⟩
 ·rw [gk_sk] at hk
  split at hk
  ·rename_i e
   have : j = i := by omega
   subst this
   exact ⟨.inr (.inr ⟨g.ands[j].1, by simp, rfl⟩), .inr (.inr ⟨g.ands[j].2, by simp, rfl⟩)⟩
  ·exact ⟨hc _ (h.cl j hj hk).1, hc _ (h.cl j hj hk).2⟩
theorem sw_done {g : Aig} (hg : Sml g) {m : List (Int × Bool)} (h : SwI g [] m) {i : Nat} (hi : i < g.ands.length) : (gk m (g.first + i)).getD false = ndG g (g.first + i).toNat := by
 have hlo := hg.lo
 have hf : 1 ≤ g.first := by unfold Aig.first; omega
 have hc : ∀ a, 0 ≤ a → Cov g [] m a → (((a / 2).toNat : Nat) : Int) < g.first ∨ gk m ((a / 2).toNat : Nat) = some true := fun a h0 ha => by
  have e : (((a / 2).toNat : Nat) : Int) = a / 2 := by omega
  rw [e]
  rcases ha with q | q | ⟨b, hb, q⟩
  ·exact .inl q
  ·exact .inr q
  ·simp at hb
 cases hn : ndG g (g.first + i).toNat with
 | true =>
  have := nd_least hg (fun n => (n : Int) < g.first ∨ gk m n = some true) (fun a ha => hc a (root_lit hg ha).1 (h.root a ha)) (fun j hj hq => by
   have e : (((g.first + j).toNat : Nat) : Int) = g.first + j := by omega
   rw [e] at hq
   rcases hq with q | q
   ·omega
   ·have hb := gate_bounds hg hj
    exact ⟨hc _ hb.1.1 (h.cl j hj q).1, hc _ hb.2.1 (h.cl j hj q).2⟩) hn
  have e : (((g.first + i).toNat : Nat) : Int) = g.first + i := by omega
  rw [e] at this
  rcases this with q | q
  ·omega
  ·rw [q]; rfl
 | false =>
  cases hk : gk m (g.first + i) with
  | none => rfl
  | some v =>
   have := (h.keys _ _ hk).2.2.2
   rw [hn] at this; simp at this
def unm (g : Aig) (m : List (Int × Bool)) : Nat → Nat
 | 0 => 0
 | i + 1 => unm g m i + if gk m (g.first + i) = none then 1 else 0
theorem unm_le (g : Aig) (m : List (Int × Bool)) : ∀ n, unm g m n ≤ n
 | 0 => Nat.le_refl _
 | n + 1 => by have := unm_le g m n; unfold unm; split <;> omega
theorem unm_set {g : Aig} {m : List (Int × Bool)} {j : Nat} {v : Bool} (hj : gk m (g.first + j) = none) : ∀ n, unm g (sk m (g.first + j) v) n + (if j < n then 1 else 0) = unm g m n
 | 0 => by simp [unm]
 | n + 1 => by
  have ih := unm_set (v := v) hj n
  unfold unm
  rw [gk_sk]
  by_cases e : n = j
  ·subst e
   simp only [if_true, hj, Nat.lt_irrefl, if_false, Nat.add_zero] at ih ⊢
   simp [ih]
  ·have c : ¬ g.first + (n : Int) = g.first + j := by omega
   rw [if_neg c]
   by_cases h1 : j < n
   ·have e2 : (if j < n + 1 then 1 else 0) = 1 := if_pos (by omega)
    rw [if_pos h1] at ih; rw [e2]; omega
   ·have e2 : (if j < n + 1 then 1 else 0) = 0 := if_neg (by omega)
    rw [if_neg h1] at ih; rw [e2]; omega
structure SwJ (g : Aig) (i : Nat) (b : B) : Prop where
 flops : b.g.flops = (bgAt g (fun _ => none) g.flops.length).2
 ins : b.g.ins = g.ins
 outs : b.g.outs = []
 lev : b.lev = (bgn g fun _ => none).lev
 len : b.lits.length = g.first.toNat + i
 few : b.g.ands.length ≤ i
 lits : ∀ x ∈ b.lits, 0 ≤ x ∧ x < 2 * (g.first + b.g.ands.length)
theorem none_len (g : Aig) : ∀ i, (bgAt g (fun _ => none) i).2.length = i
 | 0 => rfl
 | i + 1 => by
  have ih := none_len g i
  unfold bgAt
  simp [ih]
theorem sw_inv {g : Aig} (hg : Sml g) : ∀ i, i ≤ g.ands.length → SwJ g i (swAt g i)
 | 0, _ => by
  obtain ⟨h1, h2, h3, h4⟩ := bgn_bd hg fun _ => none
  have hl := bg_lits g (fun _ => none) hg.lo g.flops.length
  have h0 : (bgn g fun _ => none).g.ands.length = 0 := rfl
  refine ⟨rfl, rfl, rfl, rfl, h4, by unfold swAt; rw [h0]; exact Nat.le_refl _, fun x hx => ?_⟩
  have := hl x hx
  rw [none_len] at this
  unfold swAt
  rw [h0]
  simp only [Aig.first]
  omega
 | i + 1, hi => by
  have ih := sw_inv hg i (by omega)
  have hlo := hg.lo
  have hf : 1 ≤ g.first := by unfold Aig.first; omega
  unfold swAt
  simp only
  split
  ·refine ⟨ih.flops, ih.ins, ih.outs, ih.lev, ?_, ?_, fun x hx => ?_⟩
   ·simp only [List.length_append, List.length_cons, List.length_nil, ih.len]; omega
   ·have := ih.few
    simp only [List.length_append, List.length_cons, List.length_nil]; omega
   ·simp only [List.length_append, List.length_cons, List.length_nil] at hx ⊢
    rcases List.mem_append.1 hx with q | q
    ·have := ih.lits x q; omega
    ·simp at q; omega
  ·refine ⟨ih.flops, ih.ins, ih.outs, ih.lev, ?_, ?_, fun x hx => ?_⟩
   ·simp only [List.length_append, List.length_cons, List.length_nil, ih.len]; omega
   ·have := ih.few; simp only; omega
   ·simp only at hx ⊢
    rcases List.mem_append.1 hx with q | q
    ·exact ih.lits x q
    ·simp at q; omega
end Fil.Rw

namespace Go.Proofs.Ytapnlmhfacoceaa
open Abs Fil Fil.Rw
open Eqv (moveL)
def Rts (σ : Sig) (l : List Int) : ARes → Sig → Prop := fun r s =>
 (l = [] ∧ (r = .ret (.slice [] .nil) ∨ r = .ret (.slice [] .full)) ∧ s = σ) ∨ (l ≠ [] ∧ NewO σ (fun o => .vec o l.length) (.vec 1 l.length (l.map encInt)) r s)
theorem flat_ints (l : List Int) : flat (l.map encInt) = l.map encInt := by
 induction l with
 | nil => rfl
 | cons a l ih => simp only [List.map_cons, flat_cons, ih]; rfl
set_option maxRecDepth 20000 in
theorem rw_Clone (l : List Int) (t : Tok) (σ : Sig) (hl : l.length ≤ 1000000) : ACalls Try.prog 70 [.slice (l.map encInt) t] σ (Rts σ l) := by
 refine calls_x mixed Try.func70 b70 n70 rfl q70 (by simp) ?_; unfold c70 r70
 by_cases h : l = []
 ·subst h
  repeat' simp (maxDischargeDepth := 9) -implicitDefEqProofs -dsimp only [go_sem, seval, List.map_nil, *]
  exact ⟨fin_id (.inl ⟨rfl, .inl rfl, rfl⟩), fin_id (.inl ⟨rfl, .inr rfl, rfl⟩)⟩
 ·obtain ⟨a, m, rfl⟩ : ∃ a m, l = a :: m := by cases l with | nil => exact absurd rfl h | cons a m => exact ⟨a, m, rfl⟩
  have hfi : flat (encInt a :: List.map encInt m) = encInt a :: List.map encInt m := flat_ints (a :: m)
  have hl' : m.length + 1 ≤ 1000000 := hl
  repeat' (first | simp (maxDischargeDepth := 9) -implicitDefEqProofs -dsimp only [go_sem, seval, Nat.zero_add, flat_nil, List.nil_append, *] | ((with_reducible refine Zv ?_ ?_); focus (first | omega | exact rfl)) | ((with_reducible refine Zt (fun oF hoF hnF hnF' => ?_)); (try simp only [upd_none, ne_eq, not_and] at hoF)))
  refine fin_v (.vec oF (a :: m).length) (upd σ oF (.vec 1 (a :: m).length ((a :: m).map encInt))) (.inr ⟨h, oF, hoF, rfl, rfl⟩) ?_ ?_
  ·(repeat' simp (maxDischargeDepth := 9) -implicitDefEqProofs -dsimp only [go_sem, seval, Nat.zero_add, *])
  ·(repeat' simp (maxDischargeDepth := 9) -implicitDefEqProofs -dsimp only [go_sem, seval, Nat.zero_add, flat_nil, List.nil_append, *])
def inN (t : AV) (p : Nat) (l : List Int) : AV := if l = [] then t else .vec p l.length
def inO (l : List Int) : AObj := if l = [] then .virt 1 else .vec 1 l.length (l.map encInt)
theorem inN_nil (t : AV) (p : Nat) : inN t p [] = t := rfl
theorem inO_nil : inO [] = .virt 1 := rfl
theorem inN_ne (t : AV) (p : Nat) {l : List Int} (h : l ≠ []) : inN t p l = .vec p l.length := if_neg h
theorem inO_ne {l : List Int} (h : l ≠ []) : inO l = .vec 1 l.length (l.map encInt) := if_neg h
theorem inN_app (t : AV) (p : Nat) (l : List Int) (x : Int) : inN t p (l ++ [x]) = .vec p (l.length + 1) := by rw [inN_ne t p (by simp)]; simp
theorem inO_app (l : List Int) (x : Int) : inO (l ++ [x]) = .vec 1 (l.length + 1) (l.map encInt ++ [.int .i64 x]) := by rw [inO_ne (by simp)]; simp
theorem virt_same {σ : Sig} {v : Nat} (hv : σ v = some (.virt 1)) : upd σ v (.virt 1) = σ := by
 funext q; by_cases h : q = v
 ·subst h; simp [upd, hv]
 ·simp [upd, h]
def RtsV (σ : Sig) (v : Nat) (l : List Int) : ARes → Sig → Prop := fun r s =>
 ∃ t p, (t = .slice [] .nil ∨ t = .slice [] .full) ∧ (l = [] → p = v) ∧ (l ≠ [] → σ p = none) ∧ r = .ret (inN t p l) ∧ s = upd σ p (inO l)
theorem Rts.toV {σ : Sig} {v : Nat} (hv : σ v = some (.virt 1)) {l : List Int} {r : ARes} {s : Sig} (h : Rts σ l r s) : RtsV σ v l r s := by
 rcases h with ⟨rfl, h | h, rfl⟩ | ⟨h, o, ho, h1, h2⟩
 ·exact ⟨_, v, .inl rfl, fun _ => rfl, fun h => absurd rfl h, h, (virt_same hv).symm⟩
 ·exact ⟨_, v, .inr rfl, fun _ => rfl, fun h => absurd rfl h, h, (virt_same hv).symm⟩
 ·exact ⟨.slice [] .nil, o, .inl rfl, fun e => absurd e h, fun _ => ho, by rw [inN_ne _ _ h]; exact h1, by rw [inO_ne h]; exact h2⟩
theorem inN_1 (t : AV) (p : Nat) (x : Int) : inN t p [x] = .vec p 1 := inN_ne t p (by simp)
theorem inO_1 (x : Int) : inO [x] = .vec 1 1 [.int .i64 x] := inO_ne (by simp)
theorem flat_int1 (x : Int) : flat [.int .i64 x] = [.int .i64 x] := rfl
def curR (g : Aig) (i : Nat) : List Int := g.outs ++ (g.flops.map (·.next)).take i
set_option maxRecDepth 20000 in
set_option maxHeartbeats 4000000 in
theorem rw_roots (g : Aig) (σ : Sig) (hf : g.flops.length ≤ 100000) (ho : g.outs.length ≤ 100000) : ACalls Try.prog 39 [encAig g] σ (Rts σ (rts g)) := by
 refine ACalls.virt (callable_of Try.func39 b39 n39) 1 (fun oV1 hoV1 hnV1 hnV1' => ?_); (try simp only [upd_none, ne_eq, not_and] at hoV1); refine calls_x mixed Try.func39 b39 n39 rfl q39 (by simp) ?_; unfold c39 r39
 have hc := fun τ t hv => (rw_Clone g.outs t τ (by omega)).mono fun r s h => Rts.toV (v := oV1) hv h
 have e0 : curR g 0 = g.outs := by simp [curR]
 have eN : curR g g.flops.length = rts g := by unfold curR rts; rw [List.take_of_length_le (by simp)]
 have hlen : ∀ i, (curR g i).length ≤ 200000 := fun i => by simp only [curR, List.length_append, List.length_take, List.length_map]; omega
 repeat' simp (maxDischargeDepth := 9) -implicitDefEqProofs -dsimp only [go_sem, seval, *]
 refine (hc _ _ (by simp (maxDischargeDepth := 9) -implicitDefEqProofs -dsimp only [go_sem, seval, *])).mono ?_
 rintro r s ⟨t, p, ht, hp0, hp1, rfl, rfl⟩
 repeat' simp (maxDischargeDepth := 9) -implicitDefEqProofs -dsimp only [go_sem, seval, *]
 refine loop_rule (fun x : Nat × Nat => [(12, some (.int .i64 x.1)), (11, some (.int .i64 g.flops.length)), (10, some (.slice (g.flops.map encFlop) .no)), (3, some (inN t x.2 (curR g x.1)))])
  (fun x => upd (upd σ oV1 (.virt 1)) x.2 (inO (curR g x.1)))
  (fun x => x.1 ≤ g.flops.length ∧ (curR g x.1 = [] → x.2 = oV1) ∧ (curR g x.1 ≠ [] → σ x.2 = none ∧ ¬ x.2 = oV1 ∧ ¬ oV1 = x.2)) (fun x => g.flops.length - x.1) (0, p) ?_ ?_
 ·have h2 : g.outs ≠ [] → σ p = none ∧ ¬ p = oV1 ∧ ¬ oV1 = p := fun h => by
   have := hp1 h
   have hne : ¬ p = oV1 := fun e => by subst e; simp [upd] at this
   exact ⟨by simpa [upd, hne] using this, hne, fun e => hne e.symm⟩
  have h3 : 0 ≤ g.flops.length := Nat.zero_le _
  clear eN hc hlen hp1
  (repeat' simp (maxDischargeDepth := 9) -implicitDefEqProofs -dsimp only [go_sem, seval, *]) <;> (repeat' refine And.intro ?_ ?_) <;> (first | omega | skip)
 ·rintro ⟨i, p⟩ ⟨hi, h1, h2⟩
  simp only at hi h1 h2 ⊢
  have hl := hlen i
  clear hp0 hp1 hc hlen e0
  by_cases hlt : i < g.flops.length
  ·have hlt' : (i : Int) < g.flops.length := by omega
   have hS : curR g (i + 1) = curR g i ++ [g.flops[i].next] := by
    unfold curR
    rw [take_succ (by simpa using hlt), List.getElem_map, List.append_assoc]
   obtain ⟨L, hL⟩ : ∃ L, curR g i = L := ⟨_, rfl⟩
   rw [hL] at h1 h2 hS hl ⊢
   obtain ⟨f, hf'⟩ : ∃ f, g.flops[i] = f := ⟨_, rfl⟩
   rw [hf'] at hS
   clear eN
   by_cases hK : L = []
   ·subst hK
    obtain rfl := h1 rfl
    clear h1 h2
    rw [inN_nil, inO_nil]
    rcases ht with rfl | rfl
    all_goals
     repeat' (first | simp (maxDischargeDepth := 9) -implicitDefEqProofs -dsimp only [go_sem, seval, Nat.zero_add, flat_nil, List.nil_append, flat_agg1, *] | simp (disch := omega) only [wrap64] | ((with_reducible refine Zu ?_ ?_); focus omega) | ((with_reducible refine Zt (fun oF hoF hnF hnF' => ?_)); (try simp only [upd_none, ne_eq, not_and] at hoF)))
     obtain ⟨r1, r2, r3⟩ := id hoF
     have r4 : curR g (i + 1) ≠ [] := by rw [hS]; simp
     refine loop_next _ _ _ _ (i + 1, oF) ⟨?_, ?_, ⟨hlt, fun e => absurd e r4, fun _ => ⟨r3, r2, fun e => r2 e.symm⟩⟩, by simp only; omega⟩
     ·rw [hS, List.nil_append, inN_1]; clear hS r4; (repeat' simp (maxDischargeDepth := 9) -implicitDefEqProofs -dsimp only [go_sem, seval, *])
     ·rw [hS, List.nil_append, inO_1]; clear hS r4; (repeat' simp (maxDischargeDepth := 9) -implicitDefEqProofs -dsimp only [go_sem, seval, flat_int1, *])
   ·obtain ⟨q1, q2, q3⟩ := h2 hK
    clear h1 h2
    rw [inN_ne _ _ hK, inO_ne hK]
    repeat' (first | simp (maxDischargeDepth := 9) -implicitDefEqProofs -dsimp only [go_sem, seval, Nat.zero_add, flat_nil, List.nil_append, flat_agg1, *] | simp (disch := omega) only [wrap64] | ((with_reducible refine Zv ?_ ?_); focus (first | omega | exact rfl)) | ((with_reducible refine Zu ?_ ?_); focus omega) | ((with_reducible refine Zt (fun oF hoF hnF hnF' => ?_)); (try simp only [upd_none, ne_eq, not_and] at hoF)))
    have r4 : curR g (i + 1) ≠ [] := by rw [hS]; simp
    refine loop_next _ _ _ _ (i + 1, p) ⟨?_, ?_, ⟨hlt, fun e => absurd e r4, fun _ => ⟨q1, q2, q3⟩⟩, by simp only; omega⟩
    ·rw [hS]; (repeat' simp (maxDischargeDepth := 9) -implicitDefEqProofs -dsimp only [go_sem, seval, inN_app, inO_app, List.length_nil, Nat.zero_add, *])
    ·rw [hS]; (repeat' simp (maxDischargeDepth := 9) -implicitDefEqProofs -dsimp only [go_sem, seval, inN_app, inO_app, List.length_nil, Nat.zero_add, flat_int1, *])
  ·have hlt' : ¬ (i : Int) < g.flops.length := by omega
   have ei : i = g.flops.length := by omega
   subst ei
   rw [eN] at h1 h2 ⊢
   repeat' simp (maxDischargeDepth := 9) -implicitDefEqProofs -dsimp only [go_sem, seval, *]
   by_cases hK : rts g = []
   ·rw [hK] at h1 ⊢
    obtain rfl := h1 rfl
    rw [inN_nil, inO_nil]
    refine fin_v t σ (.inl ⟨rfl, ?_, rfl⟩) ?_ ?_
    ·rcases ht with rfl | rfl
     ·exact .inl rfl
     ·exact .inr rfl
    ·rcases ht with rfl | rfl
     ·simp (maxDischargeDepth := 9) -implicitDefEqProofs -dsimp only [go_sem, seval, *]
     ·simp (maxDischargeDepth := 9) -implicitDefEqProofs -dsimp only [go_sem, seval, *]
    ·refine subx_of fun q x hq => ?_
     have hqp : ¬ q = p := fun e => by subst e; rw [hoV1] at hq; simp at hq
     simp only [upd, hqp, if_false]; exact hq
   ·obtain ⟨q1, q2, q3⟩ := h2 hK
    rw [inN_ne _ _ hK, inO_ne hK]
    refine fin_v (.vec p (rts g).length) (upd σ p (.vec 1 (rts g).length ((rts g).map encInt))) (.inr ⟨hK, p, q1, rfl, rfl⟩) ?_ ?_
    ·(repeat' simp (maxDischargeDepth := 9) -implicitDefEqProofs -dsimp only [go_sem, seval, *])
    ·refine subx_of fun q x hq => ?_
     by_cases hqp : q = p
     ·subst hqp; simpa [upd] using hq
     ·have hqv : ¬ q = oV1 := fun e => by subst e; simp [upd, hqp, hoV1] at hq
      simp only [upd, hqp, hqv, if_false] at hq ⊢; exact hq
end Go.Proofs.Ytapnlmhfacoceaa

namespace Fil.Rw
open Abs
open Eqv (moveL)
def opsG (g : Aig) : List Int := g.ands.flatMap fun x => [x.1, x.2]
def cntL (l : List Int) (n : Int) : Nat := (l.filter fun a => decide (a / 2 = n)).length
def lastP (l : List Int) (n : Int) : Bool := l.foldl (fun b a => if a / 2 = n then decide (a % 2 = 0) else b) false
def innM (g : Aig) (n : Int) : Bool := decide (g.first ≤ n) && decide (cntL (opsG g) n + 2 * cntL (rts g) n = 1) && lastP (opsG g) n
def addK (k : Int) (m : List (Int × Int)) (l : List Int) : List (Int × Int) := l.foldl (fun m a => sk m (a / 2) ((gk m (a / 2)).getD 0 + k)) m
def plK (l : List Int) : List (Int × Bool) := l.foldl (fun m a => sk m (a / 2) (decide (a % 2 = 0))) []
def nmK (g : Aig) : List (Int × Int) := addK 2 (addK 1 [] (opsG g)) (rts g)
theorem addK_snoc (k : Int) (m : List (Int × Int)) (l : List Int) (a : Int) : addK k m (l ++ [a]) = sk (addK k m l) (a / 2) ((gk (addK k m l) (a / 2)).getD 0 + k) := by simp [addK]
theorem plK_snoc (l : List Int) (a : Int) : plK (l ++ [a]) = sk (plK l) (a / 2) (decide (a % 2 = 0)) := by simp [plK]
theorem cntL_snoc (l : List Int) (a n : Int) : cntL (l ++ [a]) n = cntL l n + if a / 2 = n then 1 else 0 := by
 simp only [cntL, List.filter_append, List.length_append]
 congr 1
 by_cases h : a / 2 = n <;> simp [h]
theorem lastP_snoc (l : List Int) (a n : Int) : lastP (l ++ [a]) n = if a / 2 = n then decide (a % 2 = 0) else lastP l n := by simp [lastP]
theorem snoc_ind {α : Type} {P : List α → Prop} (h0 : P []) (h1 : ∀ l a, P l → P (l ++ [a])) (l : List α) : P l := by
 have : ∀ m : List α, P m.reverse := fun m => by
  induction m with
  | nil => exact h0
  | cons a m ih => rw [List.reverse_cons]; exact h1 _ _ ih
 have e := this l.reverse
 rwa [List.reverse_reverse] at e
theorem addK_get (k : Int) (m : List (Int × Int)) (l : List Int) (n : Int) : (gk (addK k m l) n).getD 0 = (gk m n).getD 0 + k * cntL l n := by
 induction l using snoc_ind with
 | h0 => simp [addK, cntL]
 | h1 l a ih =>
  rw [addK_snoc, gk_sk, cntL_snoc]
  by_cases h : n = a / 2
  ·subst h
   rw [if_pos rfl, if_pos rfl, Option.getD_some, ih]
   simp only [Int.natCast_add, Int.mul_add]; simp; omega
  ·have h' : ¬ a / 2 = n := fun e => h e.symm
   rw [if_neg h, if_neg h', ih]; simp
theorem addK_uq (k : Int) {m : List (Int × Int)} (h : Uq m) (l : List Int) : Uq (addK k m l) := by
 induction l using snoc_ind with
 | h0 => exact h
 | h1 l a ih => rw [addK_snoc]; exact ih.sk
theorem plK_get (l : List Int) (n : Int) : (gk (plK l) n).getD false = lastP l n := by
 induction l using snoc_ind with
 | h0 => rfl
 | h1 l a ih =>
  rw [plK_snoc, gk_sk, lastP_snoc]
  by_cases h : n = a / 2
  ·subst h; simp
  ·have h' : ¬ a / 2 = n := fun e => h e.symm
   rw [if_neg h, if_neg h', ih]
theorem cntL_le (l : List Int) (n : Int) : cntL l n ≤ l.length := List.length_filter_le _ _
theorem opsG_len (g : Aig) : (opsG g).length = 2 * g.ands.length := by
 unfold opsG
 induction g.ands with
 | nil => rfl
 | cons x l ih => simp only [List.flatMap_cons, List.length_append, List.length_cons, List.length_nil] at ih ⊢; omega
theorem uq_get {α : Type} : ∀ {l : List (Int × α)}, Uq l → ∀ {i : Nat} {p : Int × α}, l[i]? = some p → gk l p.1 = some p.2
 | q :: r, h, 0, p, e => by
  simp at e; subst e; simp [gk]
 | q :: r, h, i + 1, p, e => by
  unfold Uq at h
  simp only [List.map_cons, List.nodup_cons] at h
  have e' : r[i]? = some p := by simpa using e
  have hm : p.1 ∈ r.map (·.1) := List.mem_map.2 ⟨p, List.mem_of_getElem? e', rfl⟩
  have hne : ¬ q.1 = p.1 := fun e => h.1 (e ▸ hm)
  simp only [gk, hne, if_false]
  exact uq_get h.2 e'
theorem gk_mem {α : Type} {n : Int} {v : α} : ∀ {l : List (Int × α)}, gk l n = some v → ∃ i : Nat, l[i]? = some (n, v)
 | q :: r, h => by
  unfold gk at h
  by_cases c : q.1 = n
  ·rw [if_pos c] at h
   simp only [Option.some.injEq] at h
   exact ⟨0, by simp [← c, ← h]⟩
  ·rw [if_neg c] at h
   obtain ⟨i, hi⟩ := gk_mem h
   exact ⟨i + 1, by simpa using hi⟩
theorem nmK_uq (g : Aig) : Uq (nmK g) := addK_uq 2 (addK_uq 1 (by simp [Uq]) _) _
theorem nmK_get (g : Aig) (n : Int) : (gk (nmK g) n).getD 0 = ((cntL (opsG g) n + 2 * cntL (rts g) n : Nat) : Int) := by
 unfold nmK
 rw [addK_get, addK_get]
 simp [gk]
theorem nmK_entry {g : Aig} {i : Nat} {p : Int × Int} (h : (nmK g)[i]? = some p) : p.2 = ((cntL (opsG g) p.1 + 2 * cntL (rts g) p.1 : Nat) : Int) := by
 have := uq_get (nmK_uq g) h
 rw [← nmK_get, this]; rfl
theorem innM_of {g : Aig} {i : Nat} {p : Int × Int} (h : (nmK g)[i]? = some p) : innM g p.1 = (decide (g.first ≤ p.1) && decide (p.2 = 1) && lastP (opsG g) p.1) := by
 rw [nmK_entry h]
 unfold innM
 congr 2
 apply decide_eq_decide.2
 omega
theorem innM_none {g : Aig} {n : Int} (h : gk (nmK g) n = none) : innM g n = false := by
 have := nmK_get g n
 rw [h] at this
 simp only [Option.getD_none] at this
 unfold innM
 have c : ¬ cntL (opsG g) n + 2 * cntL (rts g) n = 1 := by omega
 simp [c]
structure OutI (g : Aig) (seen : List Nat) (o : List (Int × Bool)) : Prop where
 val : ∀ n v, gk o n = some v → v = innM g n
 all : ∀ i ∈ seen, ∀ p, (nmK g)[i]? = some p → gk o p.1 = some (innM g p.1)
theorem out_start (g : Aig) : OutI g [] [] := ⟨fun n v h => by simp [gk] at h, fun i hi => by simp at hi⟩
theorem out_step {g : Aig} {seen : List Nat} {o : List (Int × Bool)} (h : OutI g seen o) {i : Nat} {p : Int × Int} (hp : (nmK g)[i]? = some p) : OutI g (seen ++ [i]) (sk o p.1 (innM g p.1)) := by
 refine ⟨fun n v hk => ?_, fun j hj q hq => ?_⟩
 ·rw [gk_sk] at hk
  split at hk
  ·rename_i e; simp at hk; rw [← hk, e]
  ·exact h.val n v hk
 ·rw [gk_sk]
  split
  ·rename_i e; rw [e]
  ·rename_i e
   rcases List.mem_append.1 hj with r | r
   ·exact h.all j r q hq
   ·simp at r; subst r
    rw [hp] at hq; simp at hq; subst hq
    exact absurd rfl e
theorem out_done {g : Aig} {seen : List Nat} {o : List (Int × Bool)} (h : OutI g seen o) (hall : ∀ i, i < (nmK g).length → i ∈ seen) (n : Int) : (gk o n).getD false = innM g n := by
 cases hk : gk o n with
 | some v => simp [h.val n v hk]
 | none =>
  cases hm : gk (nmK g) n with
  | none => simp [innM_none hm]
  | some c =>
   obtain ⟨i, hi⟩ := gk_mem hm
   have hlt : i < (nmK g).length := by
    rcases Nat.lt_or_ge i (nmK g).length with h' | h'
    ·exact h'
    ·rw [List.getElem?_eq_none h'] at hi; simp at hi
   have := h.all i (hall i hlt) _ hi
   simp only at this
   rw [hk] at this; simp at this
def uns (seen : List Nat) : Nat → Nat
 | 0 => 0
 | i + 1 => uns seen i + if i ∈ seen then 0 else 1
theorem uns_add {seen : List Nat} {j : Nat} (hj : j ∉ seen) : ∀ n, uns (seen ++ [j]) n + (if j < n then 1 else 0) = uns seen n
 | 0 => by simp [uns]
 | n + 1 => by
  have ih := uns_add hj n
  unfold uns
  by_cases e : n = j
  ·subst e
   have c1 : n ∈ seen ++ [n] := by simp
   have c2 : (if n < n then 1 else 0) = 0 := if_neg (by omega)
   have c3 : (if n < n + 1 then 1 else 0) = 1 := if_pos (by omega)
   rw [if_pos c1, if_neg hj, c3]; rw [c2] at ih; omega
  ·have c : (n ∈ seen ++ [j]) ↔ n ∈ seen := by simp [e]
   have c' : (if n ∈ seen ++ [j] then (0 : Nat) else 1) = if n ∈ seen then 0 else 1 := by simp [c]
   rw [c']
   by_cases h1 : j < n
   ·have c2 : (if j < n + 1 then 1 else 0) = 1 := if_pos (by omega)
    rw [if_pos h1] at ih; rw [c2]; omega
   ·have c2 : (if j < n + 1 then 1 else 0) = 0 := if_neg (by omega)
    rw [if_neg h1] at ih; rw [c2]; omega
theorem ops_take (g : Aig) {i : Nat} (h : i < g.ands.length) : (opsG g).take (2 * i + 1) = (opsG g).take (2 * i) ++ [g.ands[i].1] ∧ (opsG g).take (2 * i + 2) = (opsG g).take (2 * i + 1) ++ [g.ands[i].2] := by
 unfold opsG
 revert i
 induction g.ands with
 | nil => intro i h; simp at h
 | cons x l ih =>
  intro i h
  cases i with
  | zero => simp
  | succ i =>
   have := ih (i := i) (by simpa using h)
   simp only [List.flatMap_cons, List.cons_append, List.nil_append, Nat.mul_add, Nat.mul_one, List.getElem_cons_succ]
   constructor
   ·rw [show 2 * i + 2 + 1 = (2 * i + 1) + 1 + 1 by omega, show 2 * i + 2 = (2 * i) + 1 + 1 by omega]
    simp only [List.take_succ_cons, List.cons_append, this.1]
   ·rw [show 2 * i + 2 + 2 = (2 * i + 2) + 1 + 1 by omega, show 2 * i + 2 + 1 = (2 * i + 1) + 1 + 1 by omega]
    simp only [List.take_succ_cons, List.cons_append, this.2]
end Fil.Rw

