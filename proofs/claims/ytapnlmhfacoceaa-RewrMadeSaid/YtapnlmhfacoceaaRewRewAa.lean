/- rewr: RewrMade. -/
import Derived.Test.YtapnlmhfacoceaaRewRewU
set_option linter.unusedSimpArgs false
set_option linter.unusedVariables false
namespace Go.Proofs.Ytapnlmhfacoceaa
open Abs Fil Fil.Rw
open Eqv (moveL)
theorem rf_first (g : Aig) (σ : Sig) (hs : Small g) : ACalls Try.prog 45 [encAig g] σ (fun r σ' => r = .ret (.int .i64 g.first) ∧ σ' = σ) := by
  refine calls_x mixed Try.func45 b45 n45 rfl q45 (by simp) ?_; unfold c45 r45
  obtain ⟨⟨h0, h1, h2, h3, h4, h5, h6⟩, h7, h8⟩ := hs
  repeat' (first | simp (maxDischargeDepth := 9) -implicitDefEqProofs -dsimp only [go_sem, seval, *] | simp (disch := omega) only [wrap64])
  refine fin_eq ?_
  (repeat' (first | simp (maxDischargeDepth := 9) -implicitDefEqProofs -dsimp only [go_sem, seval, Aig.first, *] | simp (disch := omega) only [wrap64])) <;> (repeat' refine And.intro ?_ ?_) <;> (first | omega | rfl | assumption | skip)
theorem rf_moved (lits : List Int) (t : Tok) (a : Int) (σ : Sig) (h0 : 0 ≤ a) (h1 : (a / 2).toNat < lits.length) (hl : ∀ x ∈ lits, 0 ≤ x ∧ x ≤ 1000000) (ha : a ≤ 1000000) :
    ACalls Try.prog 46 [ilist lits t, .int .i64 a] σ (fun r σ' => r = .ret (.int .i64 (moveL lits a)) ∧ σ' = σ) := by
  refine calls_x mixed Try.func46 b46 n46 rfl q46 (by simp) ?_; unfold c46 r46
  have hg : lits[(a / 2).toNat] = lits.getD (a / 2).toNat 0 := by simp [List.getD_eq_getElem?_getD, h1]
  obtain ⟨hf0, hf1⟩ := hl _ (List.getElem_mem h1)
  rw [hg] at hf0 hf1
  obtain ⟨f, hf⟩ : ∃ f, lits.getD (a / 2).toNat 0 = f := ⟨_, rfl⟩
  rw [hf] at hg hf0 hf1
  have hx := xor_bit f a hf0 (by omega) h0
  have hm : moveL lits a = if a % 2 = 0 then f else turn f := by unfold moveL; rw [hf]
  rw [hm]
  rw [← hx]
  clear hx hm hl
  repeat' (first | simp (maxDischargeDepth := 9) -implicitDefEqProofs -dsimp only [go_sem, seval, *] | simp (disch := omega) only [wrap64, tdiv2, tmod2] | ((with_reducible refine Zv ?_ ?_); focus (first | omega | exact rfl)) | ((with_reducible refine Zu ?_ ?_); focus omega))
  refine fin_eq ?_
  (repeat' (first | simp (maxDischargeDepth := 9) -implicitDefEqProofs -dsimp only [go_sem, seval, *] | simp (disch := omega) only [wrap64, tdiv2, tmod2])) <;> (repeat' refine And.intro ?_ ?_) <;> (first | omega | rfl | assumption | skip)
def evL (n : Nat) : List Int := (List.range n).map fun k : Nat => 2 * (k : Int)
theorem evL_succ (n : Nat) : (evL (n + 1)).map encInt = (evL n).map encInt ++ [.int .i64 (2 * (n : Int))] := by simp [evL, List.range_succ]
theorem evL_len (n : Nat) : (evL n).length = n := by simp [evL]
theorem rf_same (g : Aig) (σ : Sig) (hs : Small g) (hn : g.first ≤ 1000000) : ACalls Try.prog 44 [encAig g] σ (NewO σ (fun o => ilist (evL g.first.toNat) (.own o)) (.grow 1 g.first.toNat)) := by
  refine ACalls.virt (callable_of Try.func44 b44 n44) 1 (fun oV1 hoV1 hnV1 hnV1' => ?_); (try simp only [upd_none, ne_eq, not_and] at hoV1); refine calls_x mixed Try.func44 b44 n44 rfl q44 (by simp) ?_; unfold c44 r44
  have hf := fun τ => rf_first g τ hs
  have hlo := hs.lo
  have h1 : 1 ≤ g.first := by simp only [Aig.first]; omega
  obtain ⟨N, hN⟩ : ∃ N, g.first.toNat = N := ⟨_, rfl⟩
  have hN' : g.first = (N : Int) := by omega
  rw [hN'] at hf
  rw [hN]
  have hN1 : N ≤ 1000000 := by omega
  clear hs hN hN' hn
  repeat' (first | simp (maxDischargeDepth := 9) -implicitDefEqProofs -dsimp only [go_sem, seval, *] | simp (disch := omega) only [wrap64] | ((with_reducible refine Zv ?_ ?_); focus (first | omega | exact rfl)))
  refine loop_rule (fun i : Nat => [(4, some (.int .i64 i)), (1, some (.cptr (aigL g))), (3, some (ilist (evL i) (.own oV1)))])
    (fun i => upd σ oV1 (.grow 1 i)) (fun i => i ≤ N) (fun i => N - i) 0 ?_ ?_
  · have e0 : evL 0 = [] := rfl
    (repeat' (first | simp (maxDischargeDepth := 9) -implicitDefEqProofs -dsimp only [go_sem, seval, e0, ilist, List.map_nil, Int.natCast_zero, *] | simp (disch := omega) only [wrap64])) <;> (repeat' refine And.intro ?_ ?_) <;> (first | omega | rfl | assumption | skip)
  · intro i hi
    have hl := evL_len i
    by_cases hlt : i < N
    · have hlt' : (i : Int) < N := by omega
      have hs := evL_succ i
      repeat' (first | simp (maxDischargeDepth := 9) -implicitDefEqProofs -dsimp only [go_sem, seval, *] | simp (disch := omega) only [wrap64] | ((with_reducible refine Zv ?_ ?_); focus (first | omega | exact rfl)) | ((with_reducible apply ACalls.one1); (focus ((first | with_reducible refine hf _) <;> (first | (simp (maxDischargeDepth := 9) -implicitDefEqProofs -dsimp only [go_sem, seval, *]; done) | omega))); (focus (first | trivial | with_reducible exact rfl | (simp (maxDischargeDepth := 9) -implicitDefEqProofs -dsimp only [go_sem, seval]; done)))))
      refine loop_next _ _ _ _ (i + 1) ?_; (repeat' (first | simp (maxDischargeDepth := 9) -implicitDefEqProofs -dsimp only [go_sem, seval,  ilist, *] | simp (disch := omega) only [wrap64])) <;> (repeat' refine And.intro ?_ ?_) <;> (first | omega | rfl | assumption | skip)
    · have hlt' : ¬ (i : Int) < N := by omega
      have ei : i = N := by omega
      subst ei
      repeat' (first | simp (maxDischargeDepth := 9) -implicitDefEqProofs -dsimp only [go_sem, seval, *] | simp (disch := omega) only [wrap64] | ((with_reducible refine Zv ?_ ?_); focus (first | omega | exact rfl)) | ((with_reducible apply ACalls.one1); (focus ((first | with_reducible refine hf _) <;> (first | (simp (maxDischargeDepth := 9) -implicitDefEqProofs -dsimp only [go_sem, seval, *]; done) | omega))); (focus (first | trivial | with_reducible exact rfl | (simp (maxDischargeDepth := 9) -implicitDefEqProofs -dsimp only [go_sem, seval]; done)))))
      refine fin_new oV1 hoV1 ?_
      (repeat' (first | simp (maxDischargeDepth := 9) -implicitDefEqProofs -dsimp only [go_sem, seval, *] | simp (disch := omega) only [wrap64])) <;> (repeat' refine And.intro ?_ ?_) <;> (first | omega | rfl | assumption | skip)
theorem put_bool (l : List Bool) (i : Nat) (v : Bool) (h : i < l.length) : List.take (i * 1) (l.map encBool) ++ [AV.bool v] ++ List.drop (i * 1 + 1) (l.map encBool) = (l.set i v).map encBool := by
  have h1 : (l.set i v).map encBool = (l.map encBool).set i (encBool v) := by rw [List.map_set]
  rw [h1, List.set_eq_take_append_cons_drop]
  simp [h]
theorem rep_bool (n : Nat) : (List.replicate n [AV.bool false]).flatten = (List.replicate n false).map encBool := by
  induction n with
  | zero => rfl
  | succ n ih => simp only [List.replicate_succ, List.flatten_cons, ih, List.map_cons]; rfl
theorem head_bool {l : List Bool} {i : Nat} (h : i < l.length) : (List.take 1 (List.drop (i * 1) (l.map encBool))).head? = some (.bool (l.getD i false)) := by
  rw [Nat.mul_one, List.drop_eq_getElem_cons (by simpa using h)]
  simp [List.getD_eq_getElem?_getD, h]
theorem flat_bools (l : List Bool) : flat (l.map encBool) = l.map encBool := by
  induction l with
  | nil => rfl
  | cons a l ih => rw [List.map_cons, flat_cons, ih]; rfl
theorem bool_all (l : List Bool) : ∀ x ∈ l.map encBool, (cellsA x).length = 1 := fun x hx => by
  obtain ⟨a, _, rfl⟩ := List.mem_map.1 hx
  rfl
theorem fin_bools {v : AV} {σ τ : Sig} {o n : Nat} {l : List Bool} (h : σ o = some (.vec 1 n (l.map encBool))) (hl : l.length = n) (hv : v = .vec o n) (hs : SubX [] τ (upd σ o (.grow 1 n))) :
    fin (fun r s => r = .ret (.slice (l.map encBool) .no) ∧ s = τ) v σ := by
  subst hv
  have ht : FL (upd σ o (.grow 1 n)) (.slice (l.map encBool) .no) (.slice (l.map encBool) .no) := by simp (maxDischargeDepth := 9) -implicitDefEqProofs -dsimp only [go_sem, seval]
  exact fin_frz o (sz := 1) (n := n) (cs := l.map encBool) (l := l.map encBool) (v0 := .slice (l.map encBool) .no) (v1 := .slice (l.map encBool) .no) (τ := τ) h (flat_bools l) (by simpa using hl) (bool_all l) (.base _ _ ⟨rfl, .inr rfl⟩) ht hs ⟨rfl, rfl⟩
theorem mark_snoc (v : List Bool) (l : List Int) (a : Int) : Rw.mark v (l ++ [a]) = (Rw.mark v l).set (a / 2).toNat true := by simp [Rw.mark]
theorem mark_app (v : List Bool) (l m : List Int) : Rw.mark v (l ++ m) = Rw.mark (Rw.mark v l) m := by simp [Rw.mark]
theorem take_snoc {α : Type} {l : List α} {i : Nat} (h : i < l.length) : l.take (i + 1) = l.take i ++ [l[i]] := by
  rw [List.take_add_one, List.getElem?_eq_getElem h]; rfl
theorem rf_needed (g : Aig) (σ : Sig) (hg : Sml g) : ACalls Try.prog 43 [encAig g] σ (fun r σ' => r = .ret (.slice ((ndAt g g.ands.length).map encBool) .no) ∧ σ' = σ) := by
  refine calls_x mixed Try.func43 b43 n43 rfl q43 (by simp) ?_; unfold c43 r43
  have hlo := hg.lo
  have h1 := hg.ins
  have h2 := hg.flops
  have h3 := hg.ands
  have h4 := hg.outs
  have hsm : Small g := check_small hg.wf hg.chk
  have hf := fun τ => rf_first g τ hsm
  have hc := fun τ => A.ref_Count g τ hsm
  obtain ⟨N, hN⟩ : ∃ N, (1 + g.count).toNat = N := ⟨_, rfl⟩
  have hcnt : g.count = g.ins + g.flops.length + g.ands.length := rfl
  have hN' : 1 + g.count = (N : Int) := by omega
  have hN1 : N ≤ 400 := by omega
  rw [hN'] at hc
  repeat' (first | simp (maxDischargeDepth := 9) -implicitDefEqProofs -dsimp only [go_sem, seval, *] | simp (disch := omega) only [wrap64, tdiv2] | ((with_reducible refine Zv ?_ ?_); focus (first | omega | exact rfl)) | ((with_reducible refine Zu ?_ ?_); focus omega) | ((with_reducible refine Zt (fun oF hoF hnF hnF' => ?_)); (try simp only [upd_none, ne_eq, not_and] at hoF)) | ((with_reducible apply ACalls.one1); (focus ((first | with_reducible refine hc _) <;> (first | (simp (maxDischargeDepth := 9) -implicitDefEqProofs -dsimp only [go_sem, seval, *]; done) | omega))); (focus (first | trivial | with_reducible exact rfl | (simp (maxDischargeDepth := 9) -implicitDefEqProofs -dsimp only [go_sem, seval]; done)))))
  obtain ⟨o, eo⟩ : ∃ x, x = oF := ⟨oF, rfl⟩
  subst eo
  have ho : σ o = none := hoF
  clear hoF hnF hnF' hc
  obtain ⟨v0, hv0⟩ : ∃ v, List.replicate N false = v := ⟨_, rfl⟩
  have hv0l : v0.length = N := by rw [← hv0]; simp
  have hrep : (List.replicate N [AV.bool false]).flatten = v0.map encBool := by rw [rep_bool, hv0]
  have hrl := fun a (ha : a ∈ rts g) => root_lit hg ha
  have hmo : ∀ i, i < g.outs.length → 0 ≤ g.outs[i]! ∧ g.outs[i]! < 2 * N := fun i hi => by
    have := hrl g.outs[i] (by unfold rts; exact List.mem_append_left _ (List.getElem_mem hi))
    rw [List.getElem!_eq_getElem?_getD, List.getElem?_eq_getElem hi]
    simp only [Option.getD_some]; omega
  refine loop_rule (fun i : Nat => [(4, some (.int .i64 i)), (1, some (.cptr (aigL g))), (3, some (.vec o N))])
    (fun i => upd σ o (.vec 1 N ((Rw.mark v0 (g.outs.take i)).map encBool))) (fun i => i ≤ g.outs.length) (fun i => g.outs.length - i) 0 ?_ ?_
  · have e0 : Rw.mark v0 [] = v0 := rfl
    (repeat' (first | simp (maxDischargeDepth := 9) -implicitDefEqProofs -dsimp only [go_sem, seval, e0, Int.natCast_zero, *] | simp (disch := omega) only [wrap64, tdiv2])) <;> (repeat' refine And.intro ?_ ?_) <;> (first | omega | rfl | assumption | skip)
  · intro i hi
    have hml : (Rw.mark v0 (g.outs.take i)).length = N := by rw [mark_len, hv0l]
    by_cases hlt : i < g.outs.length
    · have hlt' : (i : Int) < g.outs.length := by omega
      have hms := mark_snoc v0 (g.outs.take i) g.outs[i]
      rw [← take_snoc hlt] at hms
      have hb := hrl g.outs[i] (by unfold rts; exact List.mem_append_left _ (List.getElem_mem hlt))
      obtain ⟨a, ha⟩ : ∃ a, g.outs[i] = a := ⟨_, rfl⟩
      rw [ha] at hms hb
      obtain ⟨l, hl⟩ : ∃ l, Rw.mark v0 (g.outs.take i) = l := ⟨_, rfl⟩
      rw [hl] at hms hml ⊢
      have hp := put_bool l (a / 2).toNat true (by omega)
      have hb1 := hb.1
      have hb2 : a / 2 < N := by omega
      have hb3 : a ≤ 1000000 := by omega
      clear hrl hmo hl hb hN hN' hcnt hv0 hrep hv0l
      repeat' (first | simp (maxDischargeDepth := 9) -implicitDefEqProofs -dsimp only [go_sem, seval, *] | simp (disch := omega) only [wrap64, tdiv2] | ((with_reducible refine Zv ?_ ?_); focus (first | omega | exact rfl)) | ((with_reducible refine Zu ?_ ?_); focus omega) | ((with_reducible refine Zt (fun oF hoF hnF hnF' => ?_)); (try simp only [upd_none, ne_eq, not_and] at hoF)))
      refine loop_next _ _ _ _ (i + 1) ?_; (repeat' (first | simp (maxDischargeDepth := 9) -implicitDefEqProofs -dsimp only [go_sem, seval, *] | simp (disch := omega) only [wrap64, tdiv2])) <;> (repeat' refine And.intro ?_ ?_) <;> (first | omega | rfl | assumption | skip)
    · have hlt' : ¬ (i : Int) < g.outs.length := by omega
      have ei : i = g.outs.length := by omega
      subst ei
      have e0 : g.outs.take g.outs.length = g.outs := List.take_length
      rw [e0] at hml ⊢
      obtain ⟨v1, hv1⟩ : ∃ v, Rw.mark v0 g.outs = v := ⟨_, rfl⟩
      rw [hv1] at hml ⊢
      repeat' (first | simp (maxDischargeDepth := 9) -implicitDefEqProofs -dsimp only [go_sem, seval, *] | simp (disch := omega) only [wrap64, tdiv2] | ((with_reducible refine Zv ?_ ?_); focus (first | omega | exact rfl)) | ((with_reducible refine Zu ?_ ?_); focus omega) | ((with_reducible refine Zt (fun oF hoF hnF hnF' => ?_)); (try simp only [upd_none, ne_eq, not_and] at hoF)))
      refine loop_rule (fun i : Nat => [(5, some (.int .i64 i)), (1, some (.cptr (aigL g))), (3, some (.vec o N))])
        (fun i => upd σ o (.vec 1 N ((Rw.mark v1 ((g.flops.map (·.next)).take i)).map encBool))) (fun i => i ≤ g.flops.length) (fun i => g.flops.length - i) 0 ?_ ?_
      · have e0 : Rw.mark v1 [] = v1 := rfl
        (repeat' (first | simp (maxDischargeDepth := 9) -implicitDefEqProofs -dsimp only [go_sem, seval, e0, Int.natCast_zero, *] | simp (disch := omega) only [wrap64, tdiv2])) <;> (repeat' refine And.intro ?_ ?_) <;> (first | omega | rfl | assumption | skip)
      · intro i hi
        have hml2 : (Rw.mark v1 ((g.flops.map (·.next)).take i)).length = N := by rw [mark_len, hml]
        by_cases hlt : i < g.flops.length
        · have hlt' : (i : Int) < g.flops.length := by omega
          have hms := mark_snoc v1 ((g.flops.map (·.next)).take i) (g.flops.map (·.next))[i]!
          have hge : (g.flops.map (·.next))[i]! = g.flops[i].next := by simp [List.getElem!_eq_getElem?_getD, hlt]
          have hsn := take_snoc (l := g.flops.map (·.next)) (i := i) (by simpa using hlt)
          rw [List.getElem_map] at hsn
          rw [hge, ← hsn] at hms
          have hb := hrl g.flops[i].next (by unfold rts; exact List.mem_append_right _ (List.mem_map_of_mem (List.getElem_mem hlt)))
          obtain ⟨f, hf'⟩ : ∃ f, g.flops[i] = f := ⟨_, rfl⟩
          rw [hf'] at hms hb
          obtain ⟨a, ha⟩ : ∃ a, f.next = a := ⟨_, rfl⟩
          rw [ha] at hms hb
          obtain ⟨l, hl⟩ : ∃ l, Rw.mark v1 ((g.flops.map (·.next)).take i) = l := ⟨_, rfl⟩
          rw [hl] at hms hml2 ⊢
          have hp := put_bool l (a / 2).toNat true (by omega)
          have hb1 := hb.1
          have hb2 : a / 2 < N := by omega
          have hb3 : a ≤ 1000000 := by omega
          clear hrl hmo hl hb hN hN' hcnt hv0 hrep hv0l hsn hge hml e0 hv1
          repeat' (first | simp (maxDischargeDepth := 9) -implicitDefEqProofs -dsimp only [go_sem, seval, *] | simp (disch := omega) only [wrap64, tdiv2] | ((with_reducible refine Zv ?_ ?_); focus (first | omega | exact rfl)) | ((with_reducible refine Zu ?_ ?_); focus omega) | ((with_reducible refine Zt (fun oF hoF hnF hnF' => ?_)); (try simp only [upd_none, ne_eq, not_and] at hoF)))
          refine loop_next _ _ _ _ (i + 1) ?_; (repeat' (first | simp (maxDischargeDepth := 9) -implicitDefEqProofs -dsimp only [go_sem, seval, *] | simp (disch := omega) only [wrap64, tdiv2])) <;> (repeat' refine And.intro ?_ ?_) <;> (first | omega | rfl | assumption | skip)
        · have hlt' : ¬ (i : Int) < g.flops.length := by omega
          have ei : i = g.flops.length := by omega
          subst ei
          have e1 : (g.flops.map (·.next)).take g.flops.length = g.flops.map (·.next) := List.take_of_length_le (by simp)
          have e2 : Rw.mark v1 (g.flops.map (·.next)) = ndAt g 0 := by
            show _ = Rw.mark (List.replicate (1 + g.count).toNat false) (rts g)
            rw [hN, hv0, ← hv1, ← mark_app]; rfl
          rw [e1, e2]
          rw [e1, e2] at hml2
          clear hlt hi e1 e2 e0 hml hv1 hmo
          repeat' (first | simp (maxDischargeDepth := 9) -implicitDefEqProofs -dsimp only [go_sem, seval, *] | simp (disch := omega) only [wrap64, tdiv2] | ((with_reducible refine Zv ?_ ?_); focus (first | omega | exact rfl)) | ((with_reducible refine Zu ?_ ?_); focus omega) | ((with_reducible refine Zt (fun oF hoF hnF hnF' => ?_)); (try simp only [upd_none, ne_eq, not_and] at hoF)))
          refine loop_rule (fun k : Nat => [(6, some (.int .i64 ((g.ands.length : Int) - 1 - k))), (1, some (.cptr (aigL g))), (3, some (.vec o N))])
            (fun k => upd σ o (.vec 1 N ((ndAt g k).map encBool))) (fun k => k ≤ g.ands.length) (fun k => g.ands.length - k) 0 ?_ ?_
          · (repeat' (first | simp (maxDischargeDepth := 9) -implicitDefEqProofs -dsimp only [go_sem, seval, Int.natCast_zero, Int.sub_zero, *] | simp (disch := omega) only [wrap64, tdiv2])) <;> (repeat' refine And.intro ?_ ?_) <;> (first | omega | rfl | assumption | skip)
          · intro k hk
            have hnl := ndAt_len g k
            rw [hN] at hnl
            by_cases hlt : k < g.ands.length
            · have hi : g.ands.length - 1 - k < g.ands.length := by omega
              obtain ⟨i, hie⟩ : ∃ i, g.ands.length - 1 - k = i := ⟨_, rfl⟩
              have hsuc : ndAt g (k + 1) = if (ndAt g k).getD (g.first + i).toNat false then Rw.mark (ndAt g k) [(g.ands.getD i (0, 0)).1, (g.ands.getD i (0, 0)).2] else ndAt g k := by
                rw [← hie]; rfl
              rw [hie] at hi
              have hik : (g.ands.length : Int) - 1 - k = i := by omega
              have hik2 : (g.ands.length : Int) - 1 - ((k + 1 : Nat) : Int) = i - 1 := by omega
              obtain ⟨⟨a1, a2⟩, a3, a4⟩ := gate_bounds hg hi
              rw [ands_getD hi] at hsuc
              have hfst : g.first = 1 + g.ins + g.flops.length := rfl
              have hi' : (i : Int) < g.ands.length := by omega
              obtain ⟨x0, hx0⟩ : ∃ x, g.ands[i].1 = x := ⟨_, rfl⟩
              obtain ⟨x1, hx1⟩ : ∃ x, g.ands[i].2 = x := ⟨_, rfl⟩
              rw [hx0, hx1] at hsuc
              rw [hx0] at a1 a2
              rw [hx1] at a3 a4
              obtain ⟨l, hl⟩ : ∃ l, ndAt g k = l := ⟨_, rfl⟩
              rw [hl] at hsuc hnl ⊢
              have hgl : (g.first + (i : Int)).toNat < l.length := by omega
              have hge := head_bool hgl
              have hp := put_bool l (x0 / 2).toNat true (by omega)
              have hp2 := put_bool (l.set (x0 / 2).toNat true) (x1 / 2).toNat true (by rw [List.length_set]; omega)
              have hpl : (List.take ((x0 / 2).toNat * 1) (l.map encBool)).length + 1 + (List.drop ((x0 / 2).toNat * 1 + 1) (l.map encBool)).length = N := by
                simp only [List.length_take, List.length_drop, List.length_map]; omega
              have b1 : g.first + i < N := by omega
              have b2 : x0 / 2 < N := by omega
              have b3 : x1 / 2 < N := by omega
              have b4 : 0 ≤ g.first := by omega
              have b5 : x0 ≤ 1000000 := by omega
              have b6 : x1 ≤ 1000000 := by omega
              rw [hik]
              clear hrl hl hN hN' hcnt hv0 hrep hv0l hml2 hfst a2 a4 hie
              cases hc : l.getD (g.first + (i : Int)).toNat false with
              | true =>
                rw [hc, if_pos rfl] at hsuc
                rw [hc] at hge
                have hmk : Rw.mark l [x0, x1] = (l.set (x0 / 2).toNat true).set (x1 / 2).toNat true := rfl
                rw [hmk] at hsuc
                clear hc hmk
                repeat' (first | simp (maxDischargeDepth := 9) -implicitDefEqProofs -dsimp only [go_sem, seval, *] | simp (disch := omega) only [wrap64, tdiv2] | ((with_reducible refine Zv ?_ ?_); focus (first | omega | exact rfl)) | ((with_reducible refine Zu ?_ ?_); focus omega) | ((with_reducible refine Zt (fun oF hoF hnF hnF' => ?_)); (try simp only [upd_none, ne_eq, not_and] at hoF)) | ((with_reducible apply ACalls.one1); (focus ((first | with_reducible refine hf _) <;> (first | (simp (maxDischargeDepth := 9) -implicitDefEqProofs -dsimp only [go_sem, seval, *]; done) | omega))); (focus (first | trivial | with_reducible exact rfl | (simp (maxDischargeDepth := 9) -implicitDefEqProofs -dsimp only [go_sem, seval]; done)))))
                refine loop_next _ _ _ _ (k + 1) ?_; (repeat' (first | simp (maxDischargeDepth := 9) -implicitDefEqProofs -dsimp only [go_sem, seval, *] | simp (disch := omega) only [wrap64, tdiv2])) <;> (repeat' refine And.intro ?_ ?_) <;> (first | omega | rfl | assumption | skip)
              | false =>
                rw [hc, if_neg (by simp)] at hsuc
                rw [hc] at hge
                clear hc
                repeat' (first | simp (maxDischargeDepth := 9) -implicitDefEqProofs -dsimp only [go_sem, seval, *] | simp (disch := omega) only [wrap64, tdiv2] | ((with_reducible refine Zv ?_ ?_); focus (first | omega | exact rfl)) | ((with_reducible refine Zu ?_ ?_); focus omega) | ((with_reducible refine Zt (fun oF hoF hnF hnF' => ?_)); (try simp only [upd_none, ne_eq, not_and] at hoF)) | ((with_reducible apply ACalls.one1); (focus ((first | with_reducible refine hf _) <;> (first | (simp (maxDischargeDepth := 9) -implicitDefEqProofs -dsimp only [go_sem, seval, *]; done) | omega))); (focus (first | trivial | with_reducible exact rfl | (simp (maxDischargeDepth := 9) -implicitDefEqProofs -dsimp only [go_sem, seval]; done)))))
                refine loop_next _ _ _ _ (k + 1) ?_; (repeat' (first | simp (maxDischargeDepth := 9) -implicitDefEqProofs -dsimp only [go_sem, seval, *] | simp (disch := omega) only [wrap64, tdiv2])) <;> (repeat' refine And.intro ?_ ?_) <;> (first | omega | rfl | assumption | skip)
            · have ek : k = g.ands.length := by omega
              subst ek
              have hneg : (g.ands.length : Int) - 1 - g.ands.length = -1 := by omega
              rw [hneg]
              clear hrl hN hN' hcnt hv0 hrep hv0l hml2
              repeat' (first | simp (maxDischargeDepth := 9) -implicitDefEqProofs -dsimp only [go_sem, seval, *] | simp (disch := omega) only [wrap64, tdiv2] | ((with_reducible refine Zv ?_ ?_); focus (first | omega | exact rfl)) | ((with_reducible refine Zu ?_ ?_); focus omega) | ((with_reducible refine Zt (fun oF hoF hnF hnF' => ?_)); (try simp only [upd_none, ne_eq, not_and] at hoF)))
              refine fin_bools (o := o) (n := N) ?_ hnl rfl ?_
              · simp (maxDischargeDepth := 9) -implicitDefEqProofs -dsimp only [go_sem, seval, *]
              · (repeat' (first | simp (maxDischargeDepth := 9) -implicitDefEqProofs -dsimp only [go_sem, seval, *] | simp (disch := omega) only [wrap64, tdiv2])) <;> (repeat' refine And.intro ?_ ?_) <;> (first | omega | rfl | assumption | skip)
def endR (h g : Aig) (lits : List Int) : Aig := ⟨h.ins, g.flops.map fun f => ⟨moveL lits f.next, f.init⟩, h.ands, g.outs.map (moveL lits)⟩
set_option maxHeartbeats 4000000 in
theorem rf_ended (h g : Aig) (lits : List Int) (t : Tok) (σ : Sig) (hl : ∀ x ∈ lits, 0 ≤ x ∧ x ≤ 1000000) (hfl : ∀ f ∈ g.flops, 0 ≤ f.next ∧ (f.next / 2).toNat < lits.length ∧ f.next ≤ 1000000)
    (hou : ∀ a ∈ g.outs, 0 ≤ a ∧ (a / 2).toNat < lits.length ∧ a ≤ 1000000) (l1 : g.flops.length ≤ 1000000) (l2 : g.outs.length ≤ 1000000) :
    ACalls Try.prog 47 [encAig h, encAig g, ilist lits t] σ (fun r σ' => r = .ret (encAig (endR h g lits)) ∧ σ' = σ) := by
  refine ACalls.virt (callable_of Try.func47 b47 n47) 2 (fun oV1 hoV1 hnV1 hnV1' => ?_); (try simp only [upd_none, ne_eq, not_and] at hoV1); refine ACalls.virt (callable_of Try.func47 b47 n47) 1 (fun oV2 hoV2 hnV2 hnV2' => ?_); (try simp only [upd_none, ne_eq, not_and] at hoV2); refine calls_x mixed Try.func47 b47 n47 rfl q47 (by simp) ?_; unfold c47 r47
  repeat' (first | simp (maxDischargeDepth := 9) -implicitDefEqProofs -dsimp only [go_sem, seval, *] | simp (disch := omega) only [wrap64] | ((with_reducible refine Zv ?_ ?_); focus (first | omega | exact rfl)) | ((with_reducible refine Zu ?_ ?_); focus omega) | ((with_reducible refine Zt (fun oF hoF hnF hnF' => ?_)); (try simp only [upd_none, ne_eq, not_and] at hoF)))
  rename_i o6 n6 n6' h6
  obtain ⟨o7, e7⟩ : ∃ x, x = oF := ⟨oF, rfl⟩
  subst e7
  obtain ⟨a1, a2, a3⟩ := h6
  obtain ⟨b1, b2, b3, b4⟩ := hoF
  obtain ⟨c1, c2⟩ := hoV2
  have d1 : ¬ oV1 = oV2 := fun e => c1 e.symm
  have d2 : ¬ oV1 = o6 := fun e => a2 e.symm
  have d3 : ¬ oV2 = o6 := fun e => a1 e.symm
  have d4 : ¬ oV1 = o7 := fun e => b3 e.symm
  have d5 : ¬ oV2 = o7 := fun e => b2 e.symm
  have d6 : ¬ o6 = o7 := fun e => b1 e.symm
  clear n6 n6' hnF hnF' hnV1 hnV1' hnV2 hnV2'
  have hmv := fun a h0 h1 h2 τ => rf_moved lits t a τ h0 h1 hl h2
  obtain ⟨L, hL⟩ : ∃ L, ilist lits t = L := ⟨_, rfl⟩
  rw [hL] at hmv ⊢
  clear hl hL
  refine loop_rule (fun i : Nat => [(9, some (.int .i64 i)), (4, some (.cptr (aigL g))), (8, some (.slice (((g.flops.take i).map fun f => (⟨moveL lits f.next, f.init⟩ : Flop)).map encFlop) (.own oV1))), (2, some L), (7, some (.ptr o7 0)), (6, some (.ptr o6 0))])
    (fun i => upd (upd (upd (upd σ oV1 (.grow 2 i)) oV2 (.virt 1)) o6 (.cells [.int .i64 0, .slice [] .nil, .slice [] .nil, .slice [] .nil])) o7 (.cells (aigL h))) (fun i => i ≤ g.flops.length) (fun i => g.flops.length - i) 0 ?_ ?_
  · (repeat' (first | simp (maxDischargeDepth := 9) -implicitDefEqProofs -dsimp only [go_sem, seval, List.take_zero, List.map_nil, Int.natCast_zero, *] | simp (disch := omega) only [wrap64])) <;> (repeat' refine And.intro ?_ ?_) <;> (first | omega | rfl | assumption | skip)
  · intro i hi
    by_cases hlt : i < g.flops.length
    · have hlt' : (i : Int) < g.flops.length := by omega
      obtain ⟨q1, q2, q3⟩ := hfl _ (List.getElem_mem hlt)
      have hs := take_snoc hlt
      obtain ⟨f, hf⟩ : ∃ f, g.flops[i] = f := ⟨_, rfl⟩
      rw [hf] at q1 q2 q3 hs
      have hm := hmv f.next q1 q2 q3
      obtain ⟨u, hu⟩ : ∃ u, moveL lits f.next = u := ⟨_, rfl⟩
      rw [hu] at hm
      have hlen : ((g.flops.take i).map fun f => (⟨moveL lits f.next, f.init⟩ : Flop)).length = i := by simp; omega
      have hmap : ((g.flops.take (i + 1)).map fun f => (⟨moveL lits f.next, f.init⟩ : Flop)).map encFlop = ((g.flops.take i).map fun f => (⟨moveL lits f.next, f.init⟩ : Flop)).map encFlop ++ [.agg [.int .i64 u, .bool f.init]] := by
        rw [hs, List.map_append, List.map_append]; simp only [List.map_cons, List.map_nil, hu]
      obtain ⟨l, hl⟩ : ∃ l, ((g.flops.take i).map fun f => (⟨moveL lits f.next, f.init⟩ : Flop)) = l := ⟨_, rfl⟩
      rw [hl] at hlen hmap ⊢
      clear hmv hfl hou hl hs hu q1 q2 q3
      repeat' (first | simp (maxDischargeDepth := 9) -implicitDefEqProofs -dsimp only [go_sem, seval, *] | simp (disch := omega) only [wrap64] | ((with_reducible refine Zv ?_ ?_); focus (first | omega | exact rfl)) | ((with_reducible refine Zu ?_ ?_); focus omega) | ((with_reducible refine Zt (fun oF hoF hnF hnF' => ?_)); (try simp only [upd_none, ne_eq, not_and] at hoF)) | ((with_reducible apply ACalls.one1); (focus ((first | with_reducible refine hm _) <;> (first | (simp (maxDischargeDepth := 9) -implicitDefEqProofs -dsimp only [go_sem, seval, *]; done) | omega))); (focus (first | trivial | with_reducible exact rfl | (simp (maxDischargeDepth := 9) -implicitDefEqProofs -dsimp only [go_sem, seval]; done)))) | ((with_reducible apply id_one0); (focus (intro tS hS; ((first | with_reducible refine hm _) <;> (first | (simp (maxDischargeDepth := 9) -implicitDefEqProofs -dsimp only [go_sem, seval, *]; done) | omega | ((with_reducible refine Sub.get hS ?_); simp (maxDischargeDepth := 9) -implicitDefEqProofs -dsimp only [go_sem, seval, *]; done))))); (focus (first | trivial | (simp (maxDischargeDepth := 9) -implicitDefEqProofs -dsimp only [go_sem, seval, *]; done)))))
      refine loop_next _ _ _ _ (i + 1) ?_; (repeat' (first | simp (maxDischargeDepth := 9) -implicitDefEqProofs -dsimp only [go_sem, seval, *] | simp (disch := omega) only [wrap64])) <;> (repeat' refine And.intro ?_ ?_) <;> (first | omega | rfl | assumption | skip)
    · have hlt' : ¬ (i : Int) < g.flops.length := by omega
      have ei : i = g.flops.length := by omega
      subst ei
      have e0 : g.flops.take g.flops.length = g.flops := List.take_length
      rw [e0]
      obtain ⟨l, hl⟩ : ∃ l, (g.flops.map fun f => (⟨moveL lits f.next, f.init⟩ : Flop)) = l := ⟨_, rfl⟩
      have hend : endR h g lits = ⟨h.ins, l, h.ands, g.outs.map (moveL lits)⟩ := by unfold endR; rw [hl]
      have hll : l.length = g.flops.length := by rw [← hl]; simp
      rw [hl, hend]
      clear hlt hi hl hend e0 hfl
      repeat' (first | simp (maxDischargeDepth := 9) -implicitDefEqProofs -dsimp only [go_sem, seval, *] | simp (disch := omega) only [wrap64] | ((with_reducible refine Zv ?_ ?_); focus (first | omega | exact rfl)) | ((with_reducible refine Zu ?_ ?_); focus omega) | ((with_reducible refine Zt (fun oF hoF hnF hnF' => ?_)); (try simp only [upd_none, ne_eq, not_and] at hoF)))
      refine loop_rule (fun i : Nat => [(11, some (.int .i64 i)), (4, some (.cptr (aigL g))), (10, some (.slice (((g.outs.take i).map (moveL lits)).map encInt) (.own oV2))), (8, some (.slice (l.map encFlop) .no)), (2, some L), (7, some (.ptr o7 0)), (6, some (.ptr o6 0))])
        (fun i => upd (upd (upd σ oV2 (.grow 1 i)) o6 (.cells [.int .i64 0, .slice [] .nil, .slice [] .nil, .slice [] .nil])) o7 (.cells (aigL h))) (fun i => i ≤ g.outs.length) (fun i => g.outs.length - i) 0 ?_ ?_
      · (repeat' (first | simp (maxDischargeDepth := 9) -implicitDefEqProofs -dsimp only [go_sem, seval, List.take_zero, List.map_nil, Int.natCast_zero, *] | simp (disch := omega) only [wrap64])) <;> (repeat' refine And.intro ?_ ?_) <;> (first | omega | rfl | assumption | skip)
      · intro i hi
        by_cases hlt : i < g.outs.length
        · have hlt' : (i : Int) < g.outs.length := by omega
          obtain ⟨q1, q2, q3⟩ := hou _ (List.getElem_mem hlt)
          have hs := take_snoc hlt
          obtain ⟨a, ha⟩ : ∃ f, g.outs[i] = f := ⟨_, rfl⟩
          rw [ha] at q1 q2 q3 hs
          have hm := hmv a q1 q2 q3
          obtain ⟨u, hu⟩ : ∃ u, moveL lits a = u := ⟨_, rfl⟩
          rw [hu] at hm
          have hlen : ((g.outs.take i).map (moveL lits)).length = i := by simp; omega
          have hmap : ((g.outs.take (i + 1)).map (moveL lits)).map encInt = ((g.outs.take i).map (moveL lits)).map encInt ++ [.int .i64 u] := by
            rw [hs, List.map_append, List.map_append]; simp only [List.map_cons, List.map_nil, hu]
          obtain ⟨m, hm2⟩ : ∃ l, (g.outs.take i).map (moveL lits) = l := ⟨_, rfl⟩
          rw [hm2] at hlen hmap ⊢
          clear hmv hou hm2 hs hu q1 q2 q3
          repeat' (first | simp (maxDischargeDepth := 9) -implicitDefEqProofs -dsimp only [go_sem, seval, *] | simp (disch := omega) only [wrap64] | ((with_reducible refine Zv ?_ ?_); focus (first | omega | exact rfl)) | ((with_reducible refine Zu ?_ ?_); focus omega) | ((with_reducible refine Zt (fun oF hoF hnF hnF' => ?_)); (try simp only [upd_none, ne_eq, not_and] at hoF)) | ((with_reducible apply ACalls.one1); (focus ((first | with_reducible refine hm _) <;> (first | (simp (maxDischargeDepth := 9) -implicitDefEqProofs -dsimp only [go_sem, seval, *]; done) | omega))); (focus (first | trivial | with_reducible exact rfl | (simp (maxDischargeDepth := 9) -implicitDefEqProofs -dsimp only [go_sem, seval]; done)))))
          refine loop_next _ _ _ _ (i + 1) ?_; (repeat' (first | simp (maxDischargeDepth := 9) -implicitDefEqProofs -dsimp only [go_sem, seval, *] | simp (disch := omega) only [wrap64])) <;> (repeat' refine And.intro ?_ ?_) <;> (first | omega | rfl | assumption | skip)
        · have hlt' : ¬ (i : Int) < g.outs.length := by omega
          have ei : i = g.outs.length := by omega
          subst ei
          have e0 : g.outs.take g.outs.length = g.outs := List.take_length
          rw [e0]
          clear hlt hi e0 hou hmv
          repeat' (first | simp (maxDischargeDepth := 9) -implicitDefEqProofs -dsimp only [go_sem, seval, *] | simp (disch := omega) only [wrap64] | ((with_reducible refine Zv ?_ ?_); focus (first | omega | exact rfl)) | ((with_reducible refine Zu ?_ ?_); focus omega) | ((with_reducible refine Zt (fun oF hoF hnF hnF' => ?_)); (try simp only [upd_none, ne_eq, not_and] at hoF)))
          refine fin_eq ?_
          (repeat' (first | simp (maxDischargeDepth := 9) -implicitDefEqProofs -dsimp only [go_sem, seval, *] | simp (disch := omega) only [wrap64])) <;> (repeat' refine And.intro ?_ ?_) <;> (first | omega | rfl | assumption | skip)
end Go.Proofs.Ytapnlmhfacoceaa

namespace Fil.Rw
open Abs
open Eqv (moveL)
def evL' (n : Nat) : List Int := (List.range n).map fun k : Nat => 2 * (k : Int)
theorem evL'_succ (n : Nat) : evL' (n + 1) = evL' n ++ [2 * (n : Int)] := by simp [evL', List.range_succ]
theorem bg_none (g : Aig) (h : 0 ≤ g.ins) : ∀ i, i ≤ g.flops.length → (bgAt g (fun _ => none) i).1 = evL' ((1 + g.ins).toNat + i) ∧ (bgAt g (fun _ => none) i).2 = (g.flops.take i).map fun f => ⟨0, f.init⟩
  | 0, _ => ⟨rfl, rfl⟩
  | i + 1, hi => by
    obtain ⟨h1, h2⟩ := bg_none g h i (by omega)
    have hg : g.flops.getD i ⟨0, false⟩ = g.flops[i] := by simp [List.getD_eq_getElem?_getD, show i < g.flops.length by omega]
    unfold bgAt
    simp only
    rw [h1, h2, hg]
    constructor
    · rw [show (1 + g.ins).toNat + (i + 1) = ((1 + g.ins).toNat + i) + 1 by omega, evL'_succ]
      congr 2
      simp only [List.length_map, List.length_take]; omega
    · rw [List.take_add_one, List.getElem?_eq_getElem (by omega), List.map_append]; rfl
theorem bgn_none {g : Aig} (hg : Sml g) : (bgn g fun _ => none).lits = evL' g.first.toNat ∧ (bgn g fun _ => none).g = ⟨g.ins, g.flops.map fun f => ⟨0, f.init⟩, [], []⟩ := by
  obtain ⟨h1, h2⟩ := bg_none g hg.lo g.flops.length (Nat.le_refl _)
  have hlo := hg.lo
  unfold bgn
  rw [h1, h2, List.take_length]
  refine ⟨?_, rfl⟩
  show evL' _ = _
  congr 1
  simp only [Aig.first]; omega
theorem nx_none (g : Aig) (lits : List Int) : ∀ i, i ≤ g.flops.length → nextsAt g (fun _ => none) lits i = (g.flops.take i).map fun f => ⟨moveL lits f.next, f.init⟩
  | 0, _ => rfl
  | i + 1, hi => by
    have ih := nx_none g lits i (by omega)
    have hg : g.flops.getD i ⟨0, false⟩ = g.flops[i] := by simp [List.getD_eq_getElem?_getD, show i < g.flops.length by omega]
    unfold nextsAt
    simp only
    rw [ih, hg, List.take_add_one, List.getElem?_eq_getElem (by omega), List.map_append]; rfl
def endG (h g : Aig) (lits : List Int) : Aig := ⟨h.ins, g.flops.map fun f => ⟨moveL lits f.next, f.init⟩, h.ands, g.outs.map (moveL lits)⟩
theorem endG_eq {g : Aig} {b : B} (ho : b.g.outs = []) : endB g (fun _ => none) b = endG b.g g b.lits := by
  unfold endB endG
  rw [nx_none g b.lits g.flops.length (Nat.le_refl _), List.take_length, ho]; rfl
def rsAt (g : Aig) : Nat → List (Int × Int) × List Int
  | 0 => ([], evL' g.first.toNat)
  | i + 1 =>
    let L := (rsAt g i).2 ++ [2 * (g.first + (rsAt g i).1.length)]
    let x := g.ands.getD i (0, 0)
    (if ndG g (g.first + i).toNat then (rsAt g i).1 ++ [(moveL L x.1, moveL L x.2)] else (rsAt g i).1, L)
def rsweep (g : Aig) : Aig := endG ⟨g.ins, [], (rsAt g g.ands.length).1, []⟩ g (rsAt g g.ands.length).2
theorem rs_len (g : Aig) : ∀ i, (rsAt g i).2.length = g.first.toNat + i
  | 0 => by simp [rsAt, evL']
  | i + 1 => by simp [rsAt, rs_len g i]; omega
theorem getD_app {l m : List Int} {n : Nat} (h : n < l.length) : (l ++ m).getD n 0 = l.getD n 0 := by
  simp only [List.getD_eq_getElem?_getD, List.getElem?_append_left h]
theorem getD_last {l : List Int} {x : Int} {n : Nat} (h : n = l.length) : (l ++ [x]).getD n 0 = x := by
  subst h
  simp [List.getD_eq_getElem?_getD]
theorem move_eq {l m : List Int} {a : Int} (h : l.getD (a / 2).toNat 0 = m.getD (a / 2).toNat 0) : moveL l a = moveL m a := by
  unfold moveL; rw [h]
theorem rs_eq {g : Aig} (hg : Sml g) : ∀ i, i ≤ g.ands.length → (rsAt g i).1 = (swAt g i).g.ands ∧ ∀ n : Nat, n < g.first.toNat + i → ((n : Int) < g.first ∨ ndG g n = true) → (rsAt g i).2.getD n 0 = (swAt g i).lits.getD n 0
  | 0, _ => by
    obtain ⟨h1, h2⟩ := bgn_none hg
    refine ⟨rfl, fun n hn _ => ?_⟩
    show (evL' _).getD n 0 = (bgn g _).lits.getD n 0
    rw [h1]
  | i + 1, hi => by
    obtain ⟨h1, h2⟩ := rs_eq hg i (by omega)
    have hlt : i < g.ands.length := by omega
    have J := sw_inv hg i (by omega)
    have hlo := hg.lo
    have hf : 1 ≤ g.first := by unfold Aig.first; omega
    have hrl := rs_len g i
    have hsl := J.len
    obtain ⟨⟨a1, a2⟩, a3, a4⟩ := gate_bounds hg hlt
    unfold rsAt swAt
    simp only
    rw [h1, ands_getD hlt]
    cases hn : ndG g (g.first + i).toNat with
    | true =>
      simp only [if_true]
      obtain ⟨k1, k2⟩ := nd_step hg hlt hn
      have hm : ∀ a, 0 ≤ a → a < 2 * (g.first + i) → ndG g (a / 2).toNat = true → moveL ((rsAt g i).2 ++ [2 * (g.first + (swAt g i).g.ands.length)]) a = moveL ((swAt g i).lits ++ [2 * (g.first + (swAt g i).g.ands.length)]) a := fun a q0 q1 q2 => by
        refine move_eq ?_
        rw [getD_app (by omega), getD_app (by omega)]
        exact h2 _ (by omega) (.inr q2)
      refine ⟨by rw [hm _ a1 a2 k1, hm _ a3 a4 k2], fun n hn1 hn2 => ?_⟩
      by_cases hlast : n < g.first.toNat + i
      · rw [getD_app (by omega), getD_app (by omega)]
        exact h2 n hlast hn2
      · rw [getD_last (by omega), getD_last (by omega)]
    | false =>
      simp only [Bool.false_eq_true, if_false]
      refine ⟨trivial, fun n hn1 hn2 => ?_⟩
      by_cases hlast : n < g.first.toNat + i
      · rw [getD_app (by omega), getD_app (by omega)]
        exact h2 n hlast hn2
      · exfalso
        have e : n = (g.first + i).toNat := by omega
        subst e
        rcases hn2 with q | q
        · omega
        · rw [hn] at q; simp at q
theorem rsweep_eq {g : Aig} (hg : Sml g) : rsweep g = sweep g := by
  obtain ⟨h1, h2⟩ := rs_eq hg g.ands.length (Nat.le_refl _)
  have J := sw_inv hg g.ands.length (Nat.le_refl _)
  have hlo := hg.lo
  have hf : 1 ≤ g.first := by unfold Aig.first; omega
  have cf := count_first g
  have hm : ∀ a ∈ rts g, moveL (rsAt g g.ands.length).2 a = moveL (swAt g g.ands.length).lits a := fun a ha => by
    have := root_lit hg ha
    exact move_eq (h2 _ (by omega) (.inr (nd_root hg ha)))
  unfold rsweep sweep
  rw [endG_eq J.outs]
  unfold endG
  simp only
  rw [h1, J.ins]
  congr 1
  · refine List.map_congr_left fun f hf => ?_
    rw [hm _ (by unfold rts; exact List.mem_append_right _ (List.mem_map_of_mem hf))]
  · refine List.map_congr_left fun a ha => ?_
    exact hm _ (by unfold rts; exact List.mem_append_left _ ha)
end Fil.Rw

namespace Go.Proofs.Ytapnlmhfacoceaa
open Abs Fil Fil.Rw
open Eqv (moveL)
theorem rf_begun (g : Aig) (σ : Sig) (hg : Sml g) : ACalls Try.prog 49 [encAig g] σ (fun r σ' => r = .ret (encAig ⟨g.ins, g.flops.map fun f => ⟨0, f.init⟩, [], []⟩) ∧ σ' = σ) := by
  refine calls_x mixed Try.func49 b49 n49 rfl q49 (by simp) ?_; unfold c49 r49
  have hlo := hg.lo
  have h1 := hg.ins
  have h2 := hg.flops
  have c1 := fun τ => A.ref_Init g τ (by omega)
  have c2 := fun τ => A.ref_New g.ins (g.flops.map (·.init)) τ hg.wf.ins (by simp; omega)
  have hN : Aig.New g.ins (g.flops.map (·.init)) = (⟨g.ins, g.flops.map fun f => ⟨0, f.init⟩, [], []⟩, 0) := by
    unfold Aig.New
    rw [if_neg (by omega), if_neg (by simp; omega), List.map_map]; rfl
  rw [hN] at c2
  simp only at c2
  clear hN h1 h2 hlo hg
  repeat' (first | simp (maxDischargeDepth := 9) -implicitDefEqProofs -dsimp only [go_sem, seval, *] | ((with_reducible refine Zt (fun oF hoF hnF hnF' => ?_)); (try simp only [upd_none, ne_eq, not_and] at hoF)) | ((with_reducible apply id_one0); (focus (intro tS hS; ((first | with_reducible refine c1 _ | with_reducible refine c2 _) <;> (first | (simp (maxDischargeDepth := 9) -implicitDefEqProofs -dsimp only [go_sem, seval, *]; done) | omega | ((with_reducible refine Sub.get hS ?_); simp (maxDischargeDepth := 9) -implicitDefEqProofs -dsimp only [go_sem, seval, *]; done))))); (focus (first | trivial | (simp (maxDischargeDepth := 9) -implicitDefEqProofs -dsimp only [go_sem, seval, *]; done)))))
  refine fin_eq ?_
  (repeat' (first | simp (maxDischargeDepth := 9) -implicitDefEqProofs -dsimp only [go_sem, seval, *])) <;> (repeat' refine And.intro ?_ ?_) <;> (first | omega | rfl | assumption | skip)
theorem rs_bound {g : Aig} (hg : Sml g) : ∀ i, i ≤ g.ands.length → (rsAt g i).1.length ≤ i ∧ ∀ x ∈ (rsAt g i).2, 0 ≤ x ∧ x ≤ 1000000
  | 0, _ => by
    refine ⟨Nat.le_refl _, fun x hx => ?_⟩
    have h1 := hg.ins; have h2 := hg.flops
    simp only [rsAt, evL', List.mem_map, List.mem_range] at hx
    obtain ⟨k, hk, rfl⟩ := hx
    simp only [Aig.first] at hk; omega
  | i + 1, hi => by
    obtain ⟨h1, h2⟩ := rs_bound hg i (by omega)
    have k1 := hg.ins; have k2 := hg.flops; have k3 := hg.ands; have k4 := hg.lo
    unfold rsAt
    simp only
    refine ⟨?_, fun x hx => ?_⟩
    · split
      · simp; omega
      · omega
    · rcases List.mem_append.1 hx with q | q
      · exact h2 x q
      · rw [List.mem_singleton.1 q]; simp only [Aig.first]; omega
set_option maxRecDepth 20000 in
set_option maxHeartbeats 8000000 in
theorem rf_Sweep (g : Aig) (σ : Sig) (hg : Sml g) : ACalls Try.prog 16 [encAig g] σ (fun r σ' => r = .ret (.tup [encAig (sweep g), .int .i64 0]) ∧ σ' = σ) := by
  refine ACalls.virt (callable_of Try.func16 b16 n16) 2 (fun oV1 hoV1 hnV1 hnV1' => ?_); (try simp only [upd_none, ne_eq, not_and] at hoV1); refine calls_x mixed Try.func16 b16 n16 rfl q16 (by simp) ?_; unfold c16 r16
  have ez : ((0 : Int) != 0) = false := by decide
  have hlo := hg.lo
  have h1 := hg.ins
  have h2 := hg.flops
  have h3 := hg.ands
  have h4 := hg.outs
  have hsm : Small g := check_small hg.wf hg.chk
  have hk := fun τ => A.ref_Check g τ hg.wf
  rw [hg.chk] at hk
  have hfst : g.first ≤ 200 ∧ 1 ≤ g.first := by simp only [Aig.first]; omega
  have hfc := fun τ => rf_first g τ hsm
  have hnd := fun τ => rf_needed g τ hg
  have hsa := fun τ => rf_same g τ hsm (by omega)
  have hndl := ndAt_len g g.ands.length
  have cf := count_first g
  obtain ⟨nd, hn⟩ : ∃ n, ndAt g g.ands.length = n := ⟨_, rfl⟩
  have hndg : ∀ i, ndG g i = nd.getD i false := fun i => by unfold ndG; rw [hn]
  rw [hn] at hnd hndl
  clear hn
  repeat' (first | simp (maxDischargeDepth := 9) -implicitDefEqProofs -dsimp only [go_sem, seval, *] | simp (disch := omega) only [wrap64] | ((with_reducible refine Zv ?_ ?_); focus (first | omega | exact rfl)) | ((with_reducible refine Zu ?_ ?_); focus omega) | ((with_reducible refine Zt (fun oF hoF hnF hnF' => ?_)); (try simp only [upd_none, ne_eq, not_and] at hoF)) | ((with_reducible apply ACalls.one1); (focus ((first | with_reducible refine hk _ | with_reducible refine hnd _ | with_reducible refine ACalls.flA (hk _) ?_ | with_reducible refine ACalls.flA (hnd _) ?_) <;> (first | (simp (maxDischargeDepth := 9) -implicitDefEqProofs -dsimp only [go_sem, seval, *]; done) | omega))); (focus (first | trivial | with_reducible exact rfl | (simp (maxDischargeDepth := 9) -implicitDefEqProofs -dsimp only [go_sem, seval]; done)))))
  obtain ⟨oR, eR⟩ : ∃ x, x = oF := ⟨oF, rfl⟩
  subst eR
  have hoR := hoF
  clear hnF hnF' hoF
  repeat' (first | simp (maxDischargeDepth := 9) -implicitDefEqProofs -dsimp only [go_sem, seval, *] | simp (disch := omega) only [wrap64] | ((with_reducible refine Zv ?_ ?_); focus (first | omega | exact rfl)) | ((with_reducible refine Zu ?_ ?_); focus omega) | ((with_reducible refine Zt (fun oF hoF hnF hnF' => ?_)); (try simp only [upd_none, ne_eq, not_and] at hoF)) | ((with_reducible apply ACalls.newO); (focus ((first | with_reducible refine hsa _ | with_reducible refine ACalls.flA (hsa _) ?_) <;> (first | (simp (maxDischargeDepth := 9) -implicitDefEqProofs -dsimp only [go_sem, seval, *]; done) | omega))); (intro oF hoF hnF hnF'); (try simp only [upd_none, ne_eq, not_and] at hoF)))
  rename_i oM nM nM' hoM
  obtain ⟨oH, eH⟩ : ∃ x, x = oF := ⟨oF, rfl⟩
  subst eH
  obtain ⟨a1, a2⟩ := hoR
  obtain ⟨b1, b2, b3⟩ := hoM
  obtain ⟨c1, c2, c3, c4⟩ := hoF
  have d1 : ¬ oV1 = oR := fun e => a1 e.symm
  have d2 : ¬ oR = oM := fun e => b1 e.symm
  have d3 : ¬ oV1 = oM := fun e => b2 e.symm
  have d4 : ¬ oM = oH := fun e => c1 e.symm
  have d5 : ¬ oR = oH := fun e => c2 e.symm
  have d6 : ¬ oV1 = oH := fun e => c3 e.symm
  clear nM nM' hnF hnF' hnV1 hnV1' hk hnd hsa
  refine loop_rule (fun i : Nat => [(8, some (.int .i64 i)), (1, some (.cptr (aigL g))), (6, some (ilist (rsAt g i).2 (.own oM))), (7, some (.ptr oH 0)), (5, some (.slice (nd.map encBool) .no)), (2, some (.ptr oR 0))])
    (fun i => upd (upd (upd (upd σ oV1 (.grow 2 (rsAt g i).1.length)) oR (.cells [.int .i64 0, .slice [] .nil, .slice [] .nil, .slice [] .nil])) oM (.grow 1 (rsAt g i).2.length)) oH (.cells [.int .i64 g.ins, .slice [] .nil, .slice ((rsAt g i).1.map encGate) (.own oV1), .slice [] .nil]))
    (fun i => i ≤ g.ands.length) (fun i => g.ands.length - i) 0 ?_ ?_
  · have e0 : (rsAt g 0).1 = [] := rfl
    have e1 : (rsAt g 0).2 = evL g.first.toNat := rfl
    have e2 := evL_len g.first.toNat
    (repeat' (first | simp (maxDischargeDepth := 9) -implicitDefEqProofs -dsimp only [go_sem, seval, e0, e1, e2, List.map_nil, List.length_nil, Int.natCast_zero, *] | simp (disch := omega) only [wrap64])) <;> (repeat' refine And.intro ?_ ?_) <;> (first | omega | rfl | assumption | skip)
  · intro i hi
    obtain ⟨l1, l2⟩ := rs_bound hg i hi
    have l3 := rs_len g i
    by_cases hlt : i < g.ands.length
    · have hlt' : (i : Int) < g.ands.length := by omega
      obtain ⟨⟨q1, q2⟩, q3, q4⟩ := gate_bounds hg hlt
      have hgd := ands_getD hlt
      have hnx : rsAt g (i + 1) = (if ndG g (g.first + i).toNat then (rsAt g i).1 ++ [(moveL ((rsAt g i).2 ++ [2 * (g.first + (rsAt g i).1.length)]) g.ands[i].1, moveL ((rsAt g i).2 ++ [2 * (g.first + (rsAt g i).1.length)]) g.ands[i].2)] else (rsAt g i).1, (rsAt g i).2 ++ [2 * (g.first + (rsAt g i).1.length)]) := by
        conv => lhs; unfold rsAt
        simp only [hgd]
      rw [hndg] at hnx
      obtain ⟨x0, hx0⟩ : ∃ x, g.ands[i].1 = x := ⟨_, rfl⟩
      obtain ⟨x1, hx1⟩ : ∃ x, g.ands[i].2 = x := ⟨_, rfl⟩
      rw [hx0, hx1] at hnx
      rw [hx0] at q1 q2
      rw [hx1] at q3 q4
      obtain ⟨⟨A0, L0⟩, hAL⟩ : ∃ r, rsAt g i = r := ⟨_, rfl⟩
      rw [hAL] at hnx l1 l2 l3 ⊢
      simp only at hnx l1 l2 l3 ⊢
      obtain ⟨Z, hZ⟩ : ∃ Z, 2 * (g.first + (A0.length : Int)) = Z := ⟨_, rfl⟩
      rw [hZ] at hnx
      have hZ1 : 0 ≤ Z ∧ Z ≤ 1000000 := by omega
      have l4 : ∀ x ∈ L0 ++ [Z], 0 ≤ x ∧ x ≤ 1000000 := fun x hx => by
        rcases List.mem_append.1 hx with q | q
        · exact l2 x q
        · rw [List.mem_singleton.1 q]; exact hZ1
      have l5 : (L0 ++ [Z]).length = g.first.toNat + i + 1 := by simp [l3]
      have m1 := fun τ => rf_moved (L0 ++ [Z]) (.own oM) x0 τ q1 (by omega) l4 (by omega)
      have m2 := fun τ => rf_moved (L0 ++ [Z]) (.own oM) x1 τ q3 (by omega) l4 (by omega)
      obtain ⟨u, hu⟩ : ∃ u, moveL (L0 ++ [Z]) x0 = u := ⟨_, rfl⟩
      obtain ⟨v, hv⟩ : ∃ u, moveL (L0 ++ [Z]) x1 = u := ⟨_, rfl⟩
      rw [hu] at m1 hnx
      rw [hv] at m2 hnx
      simp only [ilist, List.map_append, List.map_cons, List.map_nil] at m1 m2
      have hgl : (g.first + (i : Int)).toNat < nd.length := by omega
      have hge : nd[(g.first + (i : Int)).toNat] = nd.getD (g.first + (i : Int)).toNat false := by simp [List.getD_eq_getElem?_getD, hgl]
      have hb1 : 0 ≤ g.first + (i : Int) ∧ g.first + (i : Int) ≤ 1000000 := by omega
      have hA : A0.length ≤ 1000 := by omega
      have hL : L0.length ≤ 1000 := by omega
      clear l1 l2 l4 l5 hAL hndl hndg hu hv hgd q2 q4 hsm
      cases hc : nd.getD (g.first + (i : Int)).toNat false with
      | true =>
        rw [hc, if_pos rfl] at hnx
        rw [hc] at hge
        clear hc
        repeat' (first | simp (maxDischargeDepth := 9) -implicitDefEqProofs -dsimp only [go_sem, seval, ilist, *] | simp (disch := omega) only [wrap64] | ((with_reducible refine Zv ?_ ?_); focus (first | omega | exact rfl)) | ((with_reducible refine Zu ?_ ?_); focus omega) | ((with_reducible refine Zt (fun oF hoF hnF hnF' => ?_)); (try simp only [upd_none, ne_eq, not_and] at hoF)) | ((with_reducible apply ACalls.one1); (focus ((first | with_reducible refine hfc _ | with_reducible refine m1 _ | with_reducible refine m2 _ | with_reducible refine ACalls.flA (hfc _) ?_ | with_reducible refine ACalls.flA (m1 _) ?_ | with_reducible refine ACalls.flA (m2 _) ?_) <;> (first | (simp (maxDischargeDepth := 9) -implicitDefEqProofs -dsimp only [go_sem, seval, *]; done) | omega))); (focus (first | trivial | with_reducible exact rfl | (simp (maxDischargeDepth := 9) -implicitDefEqProofs -dsimp only [go_sem, seval]; done)))) | ((with_reducible apply id_one0); (focus (intro tS hS; ((first | with_reducible refine hfc _ | with_reducible refine m1 _ | with_reducible refine m2 _ | with_reducible refine ACalls.flA (hfc _) ?_ | with_reducible refine ACalls.flA (m1 _) ?_ | with_reducible refine ACalls.flA (m2 _) ?_) <;> (first | (simp (maxDischargeDepth := 9) -implicitDefEqProofs -dsimp only [go_sem, seval, *]; done) | omega | ((with_reducible refine Sub.get hS ?_); simp (maxDischargeDepth := 9) -implicitDefEqProofs -dsimp only [go_sem, seval, *]; done))))); (focus (first | trivial | (simp (maxDischargeDepth := 9) -implicitDefEqProofs -dsimp only [go_sem, seval, *]; done)))))
        refine loop_next _ _ _ _ (i + 1) ?_; (repeat' (first | simp (maxDischargeDepth := 9) -implicitDefEqProofs -dsimp only [go_sem, seval,  ilist, List.map_append, List.map_cons, List.map_nil, List.length_append, List.length_cons, List.length_nil, *] | simp (disch := omega) only [wrap64])) <;> (repeat' refine And.intro ?_ ?_) <;> (first | omega | rfl | assumption | skip)
      | false =>
        rw [hc, if_neg (by simp)] at hnx
        rw [hc] at hge
        clear hc m1 m2
        repeat' (first | simp (maxDischargeDepth := 9) -implicitDefEqProofs -dsimp only [go_sem, seval, ilist, *] | simp (disch := omega) only [wrap64] | ((with_reducible refine Zv ?_ ?_); focus (first | omega | exact rfl)) | ((with_reducible refine Zu ?_ ?_); focus omega) | ((with_reducible refine Zt (fun oF hoF hnF hnF' => ?_)); (try simp only [upd_none, ne_eq, not_and] at hoF)) | ((with_reducible apply ACalls.one1); (focus ((first | with_reducible refine hfc _ | with_reducible refine ACalls.flA (hfc _) ?_) <;> (first | (simp (maxDischargeDepth := 9) -implicitDefEqProofs -dsimp only [go_sem, seval, *]; done) | omega))); (focus (first | trivial | with_reducible exact rfl | (simp (maxDischargeDepth := 9) -implicitDefEqProofs -dsimp only [go_sem, seval]; done)))) | ((with_reducible apply id_one0); (focus (intro tS hS; ((first | with_reducible refine hfc _ | with_reducible refine ACalls.flA (hfc _) ?_) <;> (first | (simp (maxDischargeDepth := 9) -implicitDefEqProofs -dsimp only [go_sem, seval, *]; done) | omega | ((with_reducible refine Sub.get hS ?_); simp (maxDischargeDepth := 9) -implicitDefEqProofs -dsimp only [go_sem, seval, *]; done))))); (focus (first | trivial | (simp (maxDischargeDepth := 9) -implicitDefEqProofs -dsimp only [go_sem, seval, *]; done)))))
        refine loop_next _ _ _ _ (i + 1) ?_; (repeat' (first | simp (maxDischargeDepth := 9) -implicitDefEqProofs -dsimp only [go_sem, seval,  ilist, List.map_append, List.map_cons, List.map_nil, List.length_append, List.length_cons, List.length_nil, *] | simp (disch := omega) only [wrap64])) <;> (repeat' refine And.intro ?_ ?_) <;> (first | omega | rfl | assumption | skip)
    · have hlt' : ¬ (i : Int) < g.ands.length := by omega
      have ei : i = g.ands.length := by omega
      subst ei
      have hnx : ∀ f ∈ g.flops, 0 ≤ f.next ∧ (f.next / 2).toNat < (rsAt g g.ands.length).2.length ∧ f.next ≤ 1000000 := fun f hf => by
        have := good_flops hg.good hf
        rw [l3]; omega
      have hol : ∀ a ∈ g.outs, 0 ≤ a ∧ (a / 2).toNat < (rsAt g g.ands.length).2.length ∧ a ≤ 1000000 := fun a ha => by
        have := good_outs hg.good ha
        rw [l3]; omega
      have hend := fun τ => rf_ended ⟨g.ins, [], (rsAt g g.ands.length).1, []⟩ g (rsAt g g.ands.length).2 (.own oM) τ l2 hnx hol (by omega) (by omega)
      have e0 : endR ⟨g.ins, [], (rsAt g g.ands.length).1, []⟩ g (rsAt g g.ands.length).2 = rsweep g := rfl
      rw [e0, rsweep_eq hg] at hend
      obtain ⟨⟨A0, L0⟩, hAL⟩ : ∃ r, rsAt g g.ands.length = r := ⟨_, rfl⟩
      rw [hAL] at hend ⊢
      simp only [aigL, List.map_nil] at hend
      clear hnx hol l1 l2 l3 hAL hndl hndg hlt hi hsm hfc
      repeat' (first | simp (maxDischargeDepth := 9) -implicitDefEqProofs -dsimp only [go_sem, seval, ilist, *] | simp (disch := omega) only [wrap64] | ((with_reducible refine Zv ?_ ?_); focus (first | omega | exact rfl)) | ((with_reducible refine Zu ?_ ?_); focus omega) | ((with_reducible refine Zt (fun oF hoF hnF hnF' => ?_)); (try simp only [upd_none, ne_eq, not_and] at hoF)) | ((with_reducible apply ACalls.one1); (focus ((first | with_reducible refine hend _ | with_reducible refine ACalls.flA (hend _) ?_) <;> (first | (simp (maxDischargeDepth := 9) -implicitDefEqProofs -dsimp only [go_sem, seval, *]; done) | omega))); (focus (first | trivial | with_reducible exact rfl | (simp (maxDischargeDepth := 9) -implicitDefEqProofs -dsimp only [go_sem, seval]; done)))))
      refine fin_eq ?_
      (repeat' (first | simp (maxDischargeDepth := 9) -implicitDefEqProofs -dsimp only [go_sem, seval, *] | simp (disch := omega) only [wrap64])) <;> (repeat' refine And.intro ?_ ?_) <;> (first | omega | rfl | assumption | skip)
theorem rf_Sweep_err (g : Aig) (e : Int) (σ : Sig) (hs : Wf g) (he : g.check = e) (h0 : e ≠ 0) : ACalls Try.prog 16 [encAig g] σ (fun r σ' => r = .ret (.tup [encAig ⟨0, [], [], []⟩, .int .i64 e]) ∧ σ' = σ) := by
  refine calls_x mixed Try.func16 b16 n16 rfl q16 (by simp) ?_; unfold c16 r16
  have hb : (e != 0) = true := by simpa using h0
  have hck := fun τ => A.ref_Check g τ hs
  rw [he] at hck
  repeat' (first | simp (maxDischargeDepth := 9) -implicitDefEqProofs -dsimp only [go_sem, seval, *] | ((with_reducible refine Zt (fun oF hoF hnF hnF' => ?_)); (try simp only [upd_none, ne_eq, not_and] at hoF)) | ((with_reducible apply ACalls.one1); (focus ((first | with_reducible refine hck _) <;> (first | (simp (maxDischargeDepth := 9) -implicitDefEqProofs -dsimp only [go_sem, seval, *]; done) | omega))); (focus (first | trivial | with_reducible exact rfl | (simp (maxDischargeDepth := 9) -implicitDefEqProofs -dsimp only [go_sem, seval]; done)))))
  refine fin_eq ?_
  (repeat' (first | simp (maxDischargeDepth := 9) -implicitDefEqProofs -dsimp only [go_sem, seval, List.map_nil, *])) <;> (repeat' refine And.intro ?_ ?_) <;> (first | omega | rfl | assumption | skip)
theorem lit_le {g : Aig} (hc : g.count ≤ 1000) {a : Int} (h : g.lit a = true) : 0 ≤ a ∧ a ≤ 1000000 := by
  have := litN_iff.1 h; omega
set_option maxRecDepth 20000 in
set_option maxHeartbeats 8000000 in
theorem rf_Hash (g : Aig) (σ : Sig) (hg : Sml g) : ACalls Try.prog 18 [encAig g] σ (fun r σ' => r = .ret (.tup [encAig (Rw.hashed g fun _ => none), .int .i64 0]) ∧ σ' = σ) := by
  refine calls_x mixed Try.func18 b18 n18 rfl q18 (by simp) ?_; unfold c18 r18
  have ez : ((0 : Int) != 0) = false := by decide
  have hlo := hg.lo
  have h1 := hg.ins
  have h2 := hg.flops
  have h3 := hg.ands
  have h4 := hg.outs
  have hsm : Small g := check_small hg.wf hg.chk
  have hk := fun τ => A.ref_Check g τ hg.wf
  rw [hg.chk] at hk
  have hfst : g.first ≤ 200 ∧ 1 ≤ g.first := by simp only [Aig.first]; omega
  have hbe := fun τ => rf_begun g τ hg
  have hsa := fun τ => rf_same g τ hsm (by omega)
  have cf := count_first g
  obtain ⟨g1, g2⟩ := bgn_none hg
  rw [← g2] at hbe
  repeat' (first | simp (maxDischargeDepth := 9) -implicitDefEqProofs -dsimp only [go_sem, seval, *] | simp (disch := omega) only [wrap64] | ((with_reducible refine Zv ?_ ?_); focus (first | omega | exact rfl)) | ((with_reducible refine Zu ?_ ?_); focus omega) | ((with_reducible refine Zt (fun oF hoF hnF hnF' => ?_)); (try simp only [upd_none, ne_eq, not_and] at hoF)) | ((with_reducible apply ACalls.one1); (focus ((first | with_reducible refine hk _ | with_reducible refine hbe _) <;> (first | (simp (maxDischargeDepth := 9) -implicitDefEqProofs -dsimp only [go_sem, seval, *]; done) | omega))); (focus (first | trivial | with_reducible exact rfl | (simp (maxDischargeDepth := 9) -implicitDefEqProofs -dsimp only [go_sem, seval]; done)))))
  rename_i oR hR nR nR'
  obtain ⟨oH, eH⟩ : ∃ x, x = oF := ⟨oF, rfl⟩
  subst eH
  obtain ⟨c1, c2⟩ := hoF
  clear nR nR' hnF hnF' hk hbe
  repeat' (first | simp (maxDischargeDepth := 9) -implicitDefEqProofs -dsimp only [go_sem, seval, *] | simp (disch := omega) only [wrap64] | ((with_reducible refine Zv ?_ ?_); focus (first | omega | exact rfl)) | ((with_reducible refine Zu ?_ ?_); focus omega) | ((with_reducible refine Zt (fun oF hoF hnF hnF' => ?_)); (try simp only [upd_none, ne_eq, not_and] at hoF)) | ((with_reducible apply ACalls.newO); (focus ((first | with_reducible refine hsa _) <;> (first | (simp (maxDischargeDepth := 9) -implicitDefEqProofs -dsimp only [go_sem, seval, *]; done) | omega))); (intro oF hoF hnF hnF'); (try simp only [upd_none, ne_eq, not_and] at hoF)))
  obtain ⟨oM, eM⟩ : ∃ x, x = oF := ⟨oF, rfl⟩
  subst eM
  obtain ⟨b1, b2, b3⟩ := hoF
  have d1 : ¬ oR = oH := fun e => c1 e.symm
  have d2 : ¬ oR = oM := fun e => b2 e.symm
  have d3 : ¬ oH = oM := fun e => b1 e.symm
  clear hnF hnF' hsa
  refine loop_rule (fun i : Nat => [(7, some (.int .i64 i)), (1, some (.cptr (aigL g))), (6, some (ilist (hashAt g (fun _ => none) i).lits (.own oM))), (5, some (.ptr oH 0)), (2, some (.ptr oR 0))])
    (fun i => upd (upd (upd σ oR (.cells [.int .i64 0, .slice [] .nil, .slice [] .nil, .slice [] .nil])) oH (.cells (aigL (hashAt g (fun _ => none) i).g))) oM (.grow 1 (hashAt g (fun _ => none) i).lits.length))
    (fun i => i ≤ g.ands.length) (fun i => g.ands.length - i) 0 ?_ ?_
  · have e0 : (hashAt g (fun _ => none) 0).g = (bgn g fun _ => none).g := rfl
    have e1 : (hashAt g (fun _ => none) 0).lits = evL g.first.toNat := g1
    have e2 := evL_len g.first.toNat
    (repeat' (first | simp (maxDischargeDepth := 9) -implicitDefEqProofs -dsimp only [go_sem, seval, e0, e1, e2, Int.natCast_zero, *] | simp (disch := omega) only [wrap64])) <;> (repeat' refine And.intro ?_ ?_) <;> (first | omega | rfl | assumption | skip)
  · intro i hi
    have J := hash_inv hg (fun _ => none) i hi
    have hc := J.cnt hg hi
    have l3 := J.len
    have l2 : ∀ x ∈ (hashAt g (fun _ => none) i).lits, 0 ≤ x ∧ x ≤ 1000000 := fun x hx => lit_le hc (J.lits x hx)
    by_cases hlt : i < g.ands.length
    · have hlt' : (i : Int) < g.ands.length := by omega
      obtain ⟨⟨q1, q2⟩, q3, q4⟩ := gate_bounds hg hlt
      have hgd := ands_getD hlt
      have x1 := move_lit J.lits q1 (by omega)
      have x2 := move_lit J.lits q3 (by omega)
      obtain ⟨k0, _, _, _, _, _⟩ := andB_ok J.toBd x1 x2 (by omega)
      have hnx : hashAt g (fun _ => none) (i + 1) = { (andB (hashAt g (fun _ => none) i) (moveL (hashAt g (fun _ => none) i).lits g.ands[i].1) (moveL (hashAt g (fun _ => none) i).lits g.ands[i].2)).1 with lits := (hashAt g (fun _ => none) i).lits ++ [(andB (hashAt g (fun _ => none) i) (moveL (hashAt g (fun _ => none) i).lits g.ands[i].1) (moveL (hashAt g (fun _ => none) i).lits g.ands[i].2)).2] } := by
        conv => lhs; unfold hashAt
        simp only [hgd]
      have m1 := fun τ => rf_moved (hashAt g (fun _ => none) i).lits (.own oM) g.ands[i].1 τ q1 (by omega) l2 (by omega)
      have m2 := fun τ => rf_moved (hashAt g (fun _ => none) i).lits (.own oM) g.ands[i].2 τ q3 (by omega) l2 (by omega)
      have cA := fun a b τ => A.ref_And (hashAt g (fun _ => none) i).g a b τ J.fine.toWf
      have cA2 := fun τ => cA (moveL (hashAt g (fun _ => none) i).lits g.ands[i].1) (moveL (hashAt g (fun _ => none) i).lits g.ands[i].2) τ
      rw [k0] at cA2
      have n1 : (hashAt g (fun _ => none) (i + 1)).g = ((hashAt g (fun _ => none) i).g.And (moveL (hashAt g (fun _ => none) i).lits g.ands[i].1) (moveL (hashAt g (fun _ => none) i).lits g.ands[i].2)).1 := by rw [hnx]; rfl
      have n2 : (hashAt g (fun _ => none) (i + 1)).lits = (hashAt g (fun _ => none) i).lits ++ [((hashAt g (fun _ => none) i).g.And (moveL (hashAt g (fun _ => none) i).lits g.ands[i].1) (moveL (hashAt g (fun _ => none) i).lits g.ands[i].2)).2.1] := by rw [hnx]; rfl
      obtain ⟨u, hu⟩ : ∃ u, moveL (hashAt g (fun _ => none) i).lits g.ands[i].1 = u := ⟨_, rfl⟩
      obtain ⟨v, hv⟩ : ∃ u, moveL (hashAt g (fun _ => none) i).lits g.ands[i].2 = u := ⟨_, rfl⟩
      rw [hu] at m1 cA2 n1 n2
      rw [hv] at m2 cA2 n1 n2
      obtain ⟨x0, hx0⟩ : ∃ x, g.ands[i].1 = x := ⟨_, rfl⟩
      obtain ⟨y0, hy0⟩ : ∃ x, g.ands[i].2 = x := ⟨_, rfl⟩
      rw [hx0] at m1
      rw [hy0] at m2
      obtain ⟨b, hb⟩ : ∃ b, hashAt g (fun _ => none) i = b := ⟨_, rfl⟩
      rw [hb] at m1 m2 cA2 n1 n2 l3 ⊢
      have hL : b.lits.length ≤ 1000 := by omega
      obtain ⟨⟨k, x, e⟩, hr⟩ : ∃ r, b.g.And u v = r := ⟨_, rfl⟩
      rw [hr] at cA2 n1 n2
      simp only at cA2 n1 n2
      clear cA hnx x1 x2 k0 J l2 hc hu hv hb hr hgd q1 q2 q3 q4 hsm g1 g2
      repeat' (first | simp (maxDischargeDepth := 9) -implicitDefEqProofs -dsimp only [go_sem, seval, *] | simp (disch := omega) only [wrap64] | ((with_reducible refine Zv ?_ ?_); focus (first | omega | exact rfl)) | ((with_reducible refine Zu ?_ ?_); focus omega) | ((with_reducible refine Zt (fun oF hoF hnF hnF' => ?_)); (try simp only [upd_none, ne_eq, not_and] at hoF)) | ((with_reducible apply ACalls.one1); (focus ((first | with_reducible refine m1 _ | with_reducible refine m2 _ | with_reducible refine cA2 _) <;> (first | (simp (maxDischargeDepth := 9) -implicitDefEqProofs -dsimp only [go_sem, seval, *]; done) | omega))); (focus (first | trivial | with_reducible exact rfl | (simp (maxDischargeDepth := 9) -implicitDefEqProofs -dsimp only [go_sem, seval]; done)))) | ((with_reducible apply id_one0); (focus (intro tS hS; ((first | with_reducible refine m1 _ | with_reducible refine m2 _ | with_reducible refine cA2 _) <;> (first | (simp (maxDischargeDepth := 9) -implicitDefEqProofs -dsimp only [go_sem, seval, *]; done) | omega | ((with_reducible refine Sub.get hS ?_); simp (maxDischargeDepth := 9) -implicitDefEqProofs -dsimp only [go_sem, seval, *]; done))))); (focus (first | trivial | (simp (maxDischargeDepth := 9) -implicitDefEqProofs -dsimp only [go_sem, seval, *]; done)))))
      refine loop_next _ _ _ _ (i + 1) ?_; (repeat' (first | simp (maxDischargeDepth := 9) -implicitDefEqProofs -dsimp only [go_sem, seval,  ilist, List.map_append, List.map_cons, List.map_nil, List.length_append, List.length_cons, List.length_nil, *] | simp (disch := omega) only [wrap64])) <;> (repeat' refine And.intro ?_ ?_) <;> (first | omega | rfl | assumption | skip)
    · have hlt' : ¬ (i : Int) < g.ands.length := by omega
      have ei : i = g.ands.length := by omega
      subst ei
      have hnx : ∀ f ∈ g.flops, 0 ≤ f.next ∧ (f.next / 2).toNat < (hashAt g (fun _ => none) g.ands.length).lits.length ∧ f.next ≤ 1000000 := fun f hf => by
        have := good_flops hg.good hf
        rw [l3]; omega
      have hol : ∀ a ∈ g.outs, 0 ≤ a ∧ (a / 2).toNat < (hashAt g (fun _ => none) g.ands.length).lits.length ∧ a ≤ 1000000 := fun a ha => by
        have := good_outs hg.good ha
        rw [l3]; omega
      have hend := fun τ => rf_ended (hashAt g (fun _ => none) g.ands.length).g g (hashAt g (fun _ => none) g.ands.length).lits (.own oM) τ l2 hnx hol (by omega) (by omega)
      have e0 : endR (hashAt g (fun _ => none) g.ands.length).g g (hashAt g (fun _ => none) g.ands.length).lits = Rw.hashed g fun _ => none := (endG_eq J.outs).symm
      rw [e0] at hend
      obtain ⟨b, hb⟩ : ∃ b, hashAt g (fun _ => none) g.ands.length = b := ⟨_, rfl⟩
      rw [hb] at hend ⊢
      clear hnx hol l2 l3 hlt hi hsm J hc hb g1 g2
      repeat' (first | simp (maxDischargeDepth := 9) -implicitDefEqProofs -dsimp only [go_sem, seval, *] | simp (disch := omega) only [wrap64] | ((with_reducible refine Zv ?_ ?_); focus (first | omega | exact rfl)) | ((with_reducible refine Zu ?_ ?_); focus omega) | ((with_reducible refine Zt (fun oF hoF hnF hnF' => ?_)); (try simp only [upd_none, ne_eq, not_and] at hoF)) | ((with_reducible apply ACalls.one1); (focus ((first | with_reducible refine hend _) <;> (first | (simp (maxDischargeDepth := 9) -implicitDefEqProofs -dsimp only [go_sem, seval, *]; done) | omega))); (focus (first | trivial | with_reducible exact rfl | (simp (maxDischargeDepth := 9) -implicitDefEqProofs -dsimp only [go_sem, seval]; done)))))
      refine fin_eq ?_
      (repeat' (first | simp (maxDischargeDepth := 9) -implicitDefEqProofs -dsimp only [go_sem, seval, *] | simp (disch := omega) only [wrap64])) <;> (repeat' refine And.intro ?_ ?_) <;> (first | omega | rfl | assumption | skip)
theorem rf_Hash_err (g : Aig) (e : Int) (σ : Sig) (hs : Wf g) (he : g.check = e) (h0 : e ≠ 0) : ACalls Try.prog 18 [encAig g] σ (fun r σ' => r = .ret (.tup [encAig ⟨0, [], [], []⟩, .int .i64 e]) ∧ σ' = σ) := by
  refine calls_x mixed Try.func18 b18 n18 rfl q18 (by simp) ?_; unfold c18 r18
  have hb : (e != 0) = true := by simpa using h0
  have hck := fun τ => A.ref_Check g τ hs
  rw [he] at hck
  repeat' (first | simp (maxDischargeDepth := 9) -implicitDefEqProofs -dsimp only [go_sem, seval, *] | ((with_reducible refine Zt (fun oF hoF hnF hnF' => ?_)); (try simp only [upd_none, ne_eq, not_and] at hoF)) | ((with_reducible apply ACalls.one1); (focus ((first | with_reducible refine hck _) <;> (first | (simp (maxDischargeDepth := 9) -implicitDefEqProofs -dsimp only [go_sem, seval, *]; done) | omega))); (focus (first | trivial | with_reducible exact rfl | (simp (maxDischargeDepth := 9) -implicitDefEqProofs -dsimp only [go_sem, seval]; done)))))
  refine fin_eq ?_
  (repeat' (first | simp (maxDischargeDepth := 9) -implicitDefEqProofs -dsimp only [go_sem, seval, List.map_nil, *])) <;> (repeat' refine And.intro ?_ ?_) <;> (first | omega | rfl | assumption | skip)
end Go.Proofs.Ytapnlmhfacoceaa

namespace Go.Proofs.Ytapnlmhfacoceaa
open Abs Fil Fil.Rw
set_option maxRecDepth 20000 in
set_option maxHeartbeats 8000000 in
theorem rewrMade_ok (g : Aig) (σ : Sig) (hw : Wide g) : ACalls Try.prog 3 [encAig g] σ (fun r σ' => r = .ret (.bool true) ∧ σ' = σ) := by
  refine calls_x mixed Try.func3 b3 n3 rfl q3 (by simp) ?_; unfold c3 r3
  have hf := law_few g
  cases hfw : fewR g with
  | false =>
    rw [hfw] at hf
    clear hfw hw
    repeat' (first | simp (maxDischargeDepth := 9) -implicitDefEqProofs -dsimp only [go_sem, seval, *] | ((with_reducible refine Zt (fun oF hoF hnF hnF' => ?_)); clear hnF hnF'; (try simp only [Zw, ne_eq] at hoF)) | ((with_reducible apply ACalls.one1); (focus ((first | with_reducible refine law_live _ | with_reducible refine hf _) <;> (first | (simp (maxDischargeDepth := 9) -implicitDefEqProofs -dsimp only [go_sem, seval, *]; done) | omega))); (focus (first | trivial | with_reducible exact rfl | (simp (maxDischargeDepth := 9) -implicitDefEqProofs -dsimp only [go_sem, seval]; done)))))
    refine fin_eq ?_
    (repeat' (first | simp (maxDischargeDepth := 9) -implicitDefEqProofs -dsimp only [go_sem, seval, *])) <;> (repeat' refine And.intro ?_ ?_) <;> (first | omega | rfl | assumption | skip)
  | true =>
    rw [hfw] at hf
    obtain ⟨wf, hs⟩ := few_sml hw hfw
    have key : ∃ (a c : Aig) (e : Int), (∀ τ, ACalls Try.prog 15 [encAig g] τ (fun r σ' => r = .ret (.tup [encAig a, .int .i64 e]) ∧ σ' = τ)) ∧ (∀ τ, ACalls Try.prog 16 [encAig g] τ (fun r σ' => r = .ret (.tup [encAig a, .int .i64 e]) ∧ σ' = τ)) ∧
        (∀ τ, ACalls Try.prog 17 [encAig g] τ (fun r σ' => r = .ret (.tup [encAig c, .int .i64 e]) ∧ σ' = τ)) ∧ (∀ τ, ACalls Try.prog 18 [encAig g] τ (fun r σ' => r = .ret (.tup [encAig c, .int .i64 e]) ∧ σ' = τ)) ∧
        (a.flops.length ≤ 60 ∧ a.ands.length ≤ 200 ∧ a.outs.length ≤ 60) ∧ c.flops.length ≤ 60 ∧ c.ands.length ≤ 200 ∧ c.outs.length ≤ 60 := by
      by_cases hc : g.check = 0
      · have hg := hs hc
        have s1 := (sweep_less hg).sml
        have s2 := (hash_less hg fun _ => none).sml
        exact ⟨sweep g, hashM g, 0, fun τ => rw_Sweep g τ hg, fun τ => rf_Sweep g τ hg, fun τ => rw_Hash g τ hg, fun τ => rf_Hash g τ hg, ⟨s1.flops, s1.ands, s1.outs⟩, s2.flops, s2.ands, s2.outs⟩
      · exact ⟨⟨0, [], [], []⟩, ⟨0, [], [], []⟩, g.check, fun τ => rw_Sweep_err g _ τ wf rfl hc, fun τ => rf_Sweep_err g _ τ wf rfl hc, fun τ => rw_Hash_err g _ τ wf rfl hc, fun τ => rf_Hash_err g _ τ wf rfl hc, by simp, by simp⟩
    obtain ⟨a, c, e, c1, c2, c3, c4, ⟨b1, b2, b3⟩, b4, b5, b6⟩ := key
    have q1 := fun τ => A.ref_Same a a τ (by omega) (by omega) (by omega)
    have q2 := fun τ => A.ref_Same c c τ (by omega) (by omega) (by omega)
    have ee : (e == e) = true := by simp
    clear hfw hw hs wf b1 b2 b3 b4 b5 b6
    repeat' (first | simp (maxDischargeDepth := 9) -implicitDefEqProofs -dsimp only [go_sem, seval, decide_true, *] | ((with_reducible refine Zt (fun oF hoF hnF hnF' => ?_)); clear hnF hnF'; (try simp only [Zw, ne_eq] at hoF)) | ((with_reducible apply ACalls.one1); (focus ((first | with_reducible refine law_live _ | with_reducible refine hf _ | with_reducible refine c1 _ | with_reducible refine c2 _ | with_reducible refine c3 _ | with_reducible refine c4 _ | with_reducible refine q1 _ | with_reducible refine q2 _) <;> (first | (simp (maxDischargeDepth := 9) -implicitDefEqProofs -dsimp only [go_sem, seval, *]; done) | omega))); (focus (first | trivial | with_reducible exact rfl | (simp (maxDischargeDepth := 9) -implicitDefEqProofs -dsimp only [go_sem, seval]; done)))))
    refine fin_eq ?_
    (repeat' (first | simp (maxDischargeDepth := 9) -implicitDefEqProofs -dsimp only [go_sem, seval, *])) <;> (repeat' refine And.intro ?_ ?_) <;> (first | omega | rfl | assumption | skip)
end Go.Proofs.Ytapnlmhfacoceaa

