/- rewr: RewrTwice. -/
import Derived.Test.YtapnlmhfacoceaaRwDeep
set_option linter.unusedSimpArgs false
set_option linter.unusedVariables false
namespace Go.Proofs.Ytapnlmhfacoceaa
open Abs Fil Fil.Rw
open Eqv (moveL)
theorem law_measured (g : Aig) (σ : Sig) (hg : Sml g) : ACalls Try.prog 62 [encAig g, .slice (g.lv.map encInt) .no] σ (fun r σ' => r = .ret (.bool true) ∧ σ' = σ) := by
  refine calls_x mixed Try.func62 b62 n62 rfl q62 (by simp) ?_; unfold c62 r62
  have hk := fun τ => A.ref_Check g τ hg.wf
  rw [hg.chk] at hk
  have hsm : Small g := check_small hg.wf hg.chk
  have hc := fun τ => A.ref_Count g τ hsm
  have hl := lv_length hg.fine
  have e : ((g.lv.length : Int) == 1 + g.count) = true := by rw [hl]; simp
  clear hl hsm
  repeat' (first | simp (maxDischargeDepth := 9) -implicitDefEqProofs -dsimp only [go_sem, seval, *] | ((with_reducible apply ACalls.one1); (focus ((first | with_reducible refine hk _ | with_reducible refine hc _) <;> (first | (simp (maxDischargeDepth := 9) -implicitDefEqProofs -dsimp only [go_sem, seval, *]; done) | omega))); (focus (first | trivial | with_reducible exact rfl | (simp (maxDischargeDepth := 9) -implicitDefEqProofs -dsimp only [go_sem, seval]; done)))))
  refine fin_eq ?_
  (repeat' (first | simp (maxDischargeDepth := 9) -implicitDefEqProofs -dsimp only [go_sem, seval, *])) <;> (repeat' refine And.intro ?_ ?_) <;> (first | omega | rfl | assumption | skip)
theorem lvl_get {g : Aig} (hf : Fine g) {a : Int} (ha : g.lit a = true) : ∃ h : (a / 2).toNat < g.lv.length, g.lv[(a / 2).toNat] = (lvl g.lv a : Int) ∧ 0 ≤ a ∧ a ≤ 1000000 := by
  have := litN_iff.1 ha
  have hl := lv_length hf
  have hc := hf.cnt
  have hlt : (a / 2).toNat < g.lv.length := by omega
  refine ⟨hlt, ?_, by omega, by omega⟩
  have hb := (lv_bound hf _ (List.getElem_mem hlt)).1
  have e : g.lv.getD (a / 2).toNat 0 = g.lv[(a / 2).toNat] := by simp [List.getD_eq_getElem?_getD, hlt]
  unfold lvl
  rw [e]; omega
set_option maxHeartbeats 8000000 in
theorem law_flat (g h : Aig) (lits : List Int) (σ : Sig) (hg : Sml g) (hh : Sml h) (ho : h.outs = g.outs.map (moveL lits)) (hfl : h.flops = g.flops.map fun f => ⟨moveL lits f.next, f.init⟩) (hd : ∀ a ∈ rts g, lvl h.lv (moveL lits a) ≤ lvl g.lv a) :
    ACalls Try.prog 29 [encAig g, encAig h] σ (fun r σ' => r = .ret (.bool true) ∧ σ' = σ) := by
  refine calls_x mixed Try.func29 b29 n29 rfl q29 (by simp) ?_; unfold c29 r29
  have ez : ((0 : Int) != 0) = false := by decide
  have l1 := fun τ => A.aig_Levels g τ hg.wf
  have l2 := fun τ => A.aig_Levels h τ hh.wf
  rw [levels_eq hg.chk] at l1
  rw [levels_eq hh.chk] at l2
  have m1 := law_measured g
  have m2 := law_measured h
  have m1 := fun τ => m1 τ hg
  have m2 := fun τ => m2 τ hh
  have n1 : ((g.outs.length : Int) != (h.outs.length : Int)) = false := by rw [ho]; simp
  have n2 : ((g.flops.length : Int) != (h.flops.length : Int)) = false := by rw [hfl]; simp
  have n3 : h.outs.length = g.outs.length := by rw [ho]; simp
  have n4 : h.flops.length = g.flops.length := by rw [hfl]; simp
  have hgl : ∀ a ∈ rts g, g.lit a = true := fun a ha => by
    have := root_lit hg ha; exact litN_iff.2 this
  have hhl : ∀ a ∈ rts h, h.lit a = true := fun a ha => by
    have := root_lit hh ha; exact litN_iff.2 this
  have hout : ∀ i, (h1 : i < g.outs.length) → (h2 : i < h.outs.length) → h.outs[i] = moveL lits g.outs[i] := fun i h1 h2 => by
    have : h.outs[i]? = (g.outs.map (moveL lits))[i]? := by rw [ho]
    rw [List.getElem?_eq_getElem h2, List.getElem?_map, List.getElem?_eq_getElem h1] at this
    simpa using this
  have hflo : ∀ i, (h1 : i < g.flops.length) → (h2 : i < h.flops.length) → h.flops[i].next = moveL lits g.flops[i].next := fun i h1 h2 => by
    have : h.flops[i]? = (g.flops.map fun f => (⟨moveL lits f.next, f.init⟩ : Flop))[i]? := by rw [hfl]
    rw [List.getElem?_eq_getElem h2, List.getElem?_map, List.getElem?_eq_getElem h1] at this
    simp only [Option.map_some, Option.some.injEq] at this
    rw [this]
  have hf1 := hg.fine
  have hf2 := hh.fine
  have k1 := hg.outs
  have k2 := hg.flops
  clear ho hfl hg hh
  repeat' (first | simp (maxDischargeDepth := 9) -implicitDefEqProofs -dsimp only [go_sem, seval, *] | simp (disch := omega) only [wrap64, tdiv2] | ((with_reducible refine Zv ?_ ?_); focus (first | omega | exact rfl)) | ((with_reducible refine Zu ?_ ?_); focus omega) | ((with_reducible apply ACalls.one1); (focus ((first | with_reducible refine l1 _ | with_reducible refine l2 _ | with_reducible refine m1 _ | with_reducible refine m2 _) <;> (first | (simp (maxDischargeDepth := 9) -implicitDefEqProofs -dsimp only [go_sem, seval, *]; done) | omega))); (focus (first | trivial | with_reducible exact rfl | (simp (maxDischargeDepth := 9) -implicitDefEqProofs -dsimp only [go_sem, seval]; done)))))
  refine loop_rule (fun i : Nat => [(9, some (.int .i64 i)), (2, some (.cptr (aigL g))), (3, some (.cptr (aigL h))), (7, some (.slice (h.lv.map encInt) .no)), (5, some (.slice (g.lv.map encInt) .no))])
    (fun _ => σ) (fun i => i ≤ g.outs.length) (fun i => g.outs.length - i) 0 ?_ ?_
  · (repeat' (first | simp (maxDischargeDepth := 9) -implicitDefEqProofs -dsimp only [go_sem, seval, Int.natCast_zero, *] | simp (disch := omega) only [wrap64, tdiv2])) <;> (repeat' refine And.intro ?_ ?_) <;> (first | omega | rfl | assumption | skip)
  · intro i hi
    by_cases hlt : i < g.outs.length
    · have hlt' : (i : Int) < g.outs.length := by omega
      have hlt2 : i < h.outs.length := by omega
      have hga : g.outs[i] ∈ rts g := by unfold rts; exact List.mem_append_left _ (List.getElem_mem hlt)
      have hha : h.outs[i] ∈ rts h := by unfold rts; exact List.mem_append_left _ (List.getElem_mem hlt2)
      have hle := hd _ hga
      rw [← hout i hlt hlt2] at hle
      obtain ⟨u1, u2, u3, u4⟩ := lvl_get hf1 (hgl _ hga)
      obtain ⟨v1, v2, v3, v4⟩ := lvl_get hf2 (hhl _ hha)
      obtain ⟨a, ha⟩ : ∃ a, g.outs[i] = a := ⟨_, rfl⟩
      obtain ⟨b, hb⟩ : ∃ a, h.outs[i] = a := ⟨_, rfl⟩
      simp only [ha] at u1 u2 u3 u4 hle
      simp only [hb] at v1 v2 v3 v4 hle
      have hle' : ¬ (lvl g.lv a : Int) < lvl h.lv b := by omega
      clear hd hgl hhl hout hflo hga hha hf1 hf2 l1 l2 m1 m2 n1 n2 hle
      repeat' (first | simp (maxDischargeDepth := 9) -implicitDefEqProofs -dsimp only [go_sem, seval, gt_iff_lt, *] | simp (disch := omega) only [wrap64, tdiv2] | ((with_reducible refine Zv ?_ ?_); focus (first | omega | exact rfl)) | ((with_reducible refine Zu ?_ ?_); focus omega))
      refine loop_next _ _ _ _ (i + 1) ?_; (repeat' (first | simp (maxDischargeDepth := 9) -implicitDefEqProofs -dsimp only [go_sem, seval, *] | simp (disch := omega) only [wrap64, tdiv2])) <;> (repeat' refine And.intro ?_ ?_) <;> (first | omega | rfl | assumption | skip)
    · have hlt' : ¬ (i : Int) < g.outs.length := by omega
      clear hlt hi
      repeat' (first | simp (maxDischargeDepth := 9) -implicitDefEqProofs -dsimp only [go_sem, seval, *] | simp (disch := omega) only [wrap64, tdiv2] | ((with_reducible refine Zv ?_ ?_); focus (first | omega | exact rfl)) | ((with_reducible refine Zu ?_ ?_); focus omega))
      refine loop_rule (fun i : Nat => [(10, some (.int .i64 i)), (2, some (.cptr (aigL g))), (3, some (.cptr (aigL h))), (7, some (.slice (h.lv.map encInt) .no)), (5, some (.slice (g.lv.map encInt) .no))])
        (fun _ => σ) (fun i => i ≤ g.flops.length) (fun i => g.flops.length - i) 0 ?_ ?_
      · (repeat' (first | simp (maxDischargeDepth := 9) -implicitDefEqProofs -dsimp only [go_sem, seval, Int.natCast_zero, *] | simp (disch := omega) only [wrap64, tdiv2])) <;> (repeat' refine And.intro ?_ ?_) <;> (first | omega | rfl | assumption | skip)
      · intro i hi
        by_cases hlt : i < g.flops.length
        · have hlt' : (i : Int) < g.flops.length := by omega
          have hlt2 : i < h.flops.length := by omega
          have hga : g.flops[i].next ∈ rts g := by unfold rts; exact List.mem_append_right _ (List.mem_map_of_mem (List.getElem_mem hlt))
          have hha : h.flops[i].next ∈ rts h := by unfold rts; exact List.mem_append_right _ (List.mem_map_of_mem (List.getElem_mem hlt2))
          have hle := hd _ hga
          rw [← hflo i hlt hlt2] at hle
          obtain ⟨u1, u2, u3, u4⟩ := lvl_get hf1 (hgl _ hga)
          obtain ⟨v1, v2, v3, v4⟩ := lvl_get hf2 (hhl _ hha)
          obtain ⟨p, hp⟩ : ∃ a, g.flops[i] = a := ⟨_, rfl⟩
          obtain ⟨q, hq⟩ : ∃ a, h.flops[i] = a := ⟨_, rfl⟩
          simp only [hp] at u1 u2 u3 u4 hle
          simp only [hq] at v1 v2 v3 v4 hle
          obtain ⟨a, ha⟩ : ∃ a, p.next = a := ⟨_, rfl⟩
          obtain ⟨b, hb⟩ : ∃ a, q.next = a := ⟨_, rfl⟩
          simp only [ha] at u1 u2 u3 u4 hle
          simp only [hb] at v1 v2 v3 v4 hle
          have hle' : ¬ (lvl g.lv a : Int) < lvl h.lv b := by omega
          clear hd hgl hhl hout hflo hga hha hf1 hf2 l1 l2 m1 m2 n1 n2 hle
          repeat' (first | simp (maxDischargeDepth := 9) -implicitDefEqProofs -dsimp only [go_sem, seval, gt_iff_lt, *] | simp (disch := omega) only [wrap64, tdiv2] | ((with_reducible refine Zv ?_ ?_); focus (first | omega | exact rfl)) | ((with_reducible refine Zu ?_ ?_); focus omega))
          refine loop_next _ _ _ _ (i + 1) ?_; (repeat' (first | simp (maxDischargeDepth := 9) -implicitDefEqProofs -dsimp only [go_sem, seval, *] | simp (disch := omega) only [wrap64, tdiv2])) <;> (repeat' refine And.intro ?_ ?_) <;> (first | omega | rfl | assumption | skip)
        · have hlt' : ¬ (i : Int) < g.flops.length := by omega
          clear hlt hi
          repeat' (first | simp (maxDischargeDepth := 9) -implicitDefEqProofs -dsimp only [go_sem, seval, *] | simp (disch := omega) only [wrap64, tdiv2] | ((with_reducible refine Zv ?_ ?_); focus (first | omega | exact rfl)) | ((with_reducible refine Zu ?_ ?_); focus omega))
          refine fin_eq ?_
          (repeat' (first | simp (maxDischargeDepth := 9) -implicitDefEqProofs -dsimp only [go_sem, seval, *] | simp (disch := omega) only [wrap64, tdiv2])) <;> (repeat' refine And.intro ?_ ?_) <;> (first | omega | rfl | assumption | skip)
theorem flops_none {g : Aig} (b : B) : (endB g (fun _ => none) b).flops = g.flops.map fun f => ⟨moveL b.lits f.next, f.init⟩ := by
  show nextsAt g (fun _ => none) b.lits g.flops.length = _
  rw [nx_none g b.lits g.flops.length (Nat.le_refl _), List.take_length]
theorem outs_none {g : Aig} {b : B} (h : b.g.outs = []) : (endB g (fun _ => none) b).outs = g.outs.map (moveL b.lits) := by
  show b.g.outs ++ _ = _
  rw [h]; rfl
set_option maxRecDepth 20000 in
set_option maxHeartbeats 8000000 in
theorem rewrDeep_ok (g : Aig) (σ : Sig) (hw : Wide g) : ACalls Try.prog 9 [encAig g] σ (fun r σ' => r = .ret (.bool true) ∧ σ' = σ) := by
  refine calls_x mixed Try.func9 b9 n9 rfl q9 (by simp) ?_; unfold c9 r9
  have hf := law_few g
  have ez : ((0 : Int) != 0) = false := by decide
  have ee : ((0 : Int) == 0) = true := by decide
  cases hfw : fewR g with
  | false =>
    rw [hfw] at hf
    clear hfw hw
    repeat' (first | simp (maxDischargeDepth := 9) -implicitDefEqProofs -dsimp only [go_sem, seval, *] | ((with_reducible refine Zt (fun oF hoF hnF hnF' => ?_)); clear hnF hnF'; (try simp only [Zw, ne_eq] at hoF)) | ((with_reducible apply ACalls.one1); (focus ((first | with_reducible refine law_live _ | with_reducible refine hf _) <;> (first | (simp (maxDischargeDepth := 9) -implicitDefEqProofs -dsimp only [go_sem, seval, *]; done) | omega))); (focus (first | trivial | with_reducible exact rfl | (simp (maxDischargeDepth := 9) -implicitDefEqProofs -dsimp only [go_sem, seval]; done)))))
    refine fin_eq ?_
    (repeat' (first | simp (maxDischargeDepth := 9) -implicitDefEqProofs -dsimp only [go_sem, seval, *])) <;> (repeat' refine And.intro ?_ ?_) <;> (first | omega | rfl | assumption | skip)
  | true =>
    rw [hfw] at hf
    obtain ⟨wf, hs⟩ := few_sml hw hfw
    have hck := fun τ => A.aig_Check g τ wf
    by_cases hc : g.check = 0
    · have hg := hs hc
      rw [hc] at hck
      have c1 := fun τ => rw_Balance g τ hg
      have c2 := fun τ => rw_Hash g τ hg
      have n1 := fun τ => law_flat g (balance g) _ τ hg (bal_less hg).sml (outs_none (bal_ended hg).outs) (flops_none _) fun a ha => deep_bal hg ha
      have n2 := fun τ => law_flat g (hashM g) _ τ hg (hash_less hg fun _ => none).sml (outs_none (hash_ended hg _).outs) (flops_none _) fun a ha => deep_hash hg ha
      clear hfw hw hs wf hc hg
      repeat' (first | simp (maxDischargeDepth := 9) -implicitDefEqProofs -dsimp only [go_sem, seval, *] | ((with_reducible refine Zt (fun oF hoF hnF hnF' => ?_)); clear hnF hnF'; (try simp only [Zw, ne_eq] at hoF)) | ((with_reducible apply ACalls.one1); (focus ((first | with_reducible refine law_live _ | with_reducible refine hf _ | with_reducible refine hck _ | with_reducible refine c1 _ | with_reducible refine c2 _ | with_reducible refine n1 _ | with_reducible refine n2 _) <;> (first | (simp (maxDischargeDepth := 9) -implicitDefEqProofs -dsimp only [go_sem, seval, *]; done) | omega))); (focus (first | trivial | with_reducible exact rfl | (simp (maxDischargeDepth := 9) -implicitDefEqProofs -dsimp only [go_sem, seval]; done)))))
      refine fin_eq ?_
      (repeat' (first | simp (maxDischargeDepth := 9) -implicitDefEqProofs -dsimp only [go_sem, seval, *])) <;> (repeat' refine And.intro ?_ ?_) <;> (first | omega | rfl | assumption | skip)
    · have hb : (g.check != 0) = true := by simpa using hc
      clear hfw hw hs wf
      repeat' (first | simp (maxDischargeDepth := 9) -implicitDefEqProofs -dsimp only [go_sem, seval, *] | ((with_reducible refine Zt (fun oF hoF hnF hnF' => ?_)); clear hnF hnF'; (try simp only [Zw, ne_eq] at hoF)) | ((with_reducible apply ACalls.one1); (focus ((first | with_reducible refine law_live _ | with_reducible refine hf _ | with_reducible refine hck _) <;> (first | (simp (maxDischargeDepth := 9) -implicitDefEqProofs -dsimp only [go_sem, seval, *]; done) | omega))); (focus (first | trivial | with_reducible exact rfl | (simp (maxDischargeDepth := 9) -implicitDefEqProofs -dsimp only [go_sem, seval]; done)))))
      refine fin_eq ?_
      (repeat' (first | simp (maxDischargeDepth := 9) -implicitDefEqProofs -dsimp only [go_sem, seval, *])) <;> (repeat' refine And.intro ?_ ?_) <;> (first | omega | rfl | assumption | skip)
end Go.Proofs.Ytapnlmhfacoceaa

namespace Go.Proofs.Ytapnlmhfacoceaa
open Abs Fil Fil.Rw
open Eqv (moveL)
theorem put_bool (l : List Bool) (i : Nat) (v : Bool) (h : i < l.length) : List.take (i * 1) (l.map encBool) ++ [AV.bool v] ++ List.drop (i * 1 + 1) (l.map encBool) = (l.set i v).map encBool := by
  have h1 : (l.set i v).map encBool = (l.map encBool).set i (encBool v) := by rw [List.map_set]
  rw [h1, List.set_eq_take_append_cons_drop]
  simp [h]
theorem rep_bool (n : Nat) : (List.replicate n [AV.bool false]).flatten = (List.replicate n false).map encBool := by
  induction n with
  | zero => rfl
  | succ n ih => simp only [List.replicate_succ, List.flatten_cons, ih, List.map_cons]; rfl
theorem head_bool {l : List Bool} {i : Nat} (h : i < l.length) : (List.take 1 (List.drop (i * 1) (l.map encBool))).head? = some (.bool (l.getD i false)) := by
  rw [Nat.mul_one, List.drop_eq_getElem_cons (by simpa using h)]
  simp [List.getD_eq_getElem?_getD, h]
theorem mark_snoc (v : List Bool) (l : List Int) (a : Int) : Rw.mark v (l ++ [a]) = (Rw.mark v l).set (a / 2).toNat true := by simp [Rw.mark]
theorem take_snoc {α : Type} {l : List α} {i : Nat} (h : i < l.length) : l.take (i + 1) = l.take i ++ [l[i]] := by
  rw [List.take_add_one, List.getElem?_eq_getElem h]; rfl
end Go.Proofs.Ytapnlmhfacoceaa

namespace Fil.Rw
open Abs
open Eqv (moveL)
theorem nd_inv {g : Aig} (hg : Sml g) {n : Nat} (h : ndG g n = true) : (∃ a ∈ rts g, (a / 2).toNat = n) ∨ ∃ k, ∃ h : k < g.ands.length, ndG g (g.first + k).toNat = true ∧ ((g.ands[k].1 / 2).toNat = n ∨ (g.ands[k].2 / 2).toNat = n) := by
  have := nd_least hg (fun n => ndG g n = true ∧ ((∃ a ∈ rts g, (a / 2).toNat = n) ∨ ∃ k, ∃ h : k < g.ands.length, ndG g (g.first + k).toNat = true ∧ ((g.ands[k].1 / 2).toNat = n ∨ (g.ands[k].2 / 2).toNat = n)))
    (fun a ha => ⟨nd_root hg ha, .inl ⟨a, ha, rfl⟩⟩) (fun i hi hq => by
      obtain ⟨q1, q2⟩ := nd_step hg hi hq.1
      exact ⟨⟨q1, .inr ⟨i, hi, hq.1, .inl rfl⟩⟩, q2, .inr ⟨i, hi, hq.1, .inr rfl⟩⟩) h
  exact this.2
structure SwK (g : Aig) (k : Nat) (b : B) : Prop where
  fwd : ∀ i, i < k → (h : i < g.ands.length) → ndG g (g.first + i).toNat = true → ∃ j, ∃ hj : j < b.g.ands.length, b.lits.getD (g.first.toNat + i) 0 = 2 * (g.first + j) ∧ b.g.ands[j] = (moveL b.lits g.ands[i].1, moveL b.lits g.ands[i].2)
  bwd : ∀ j, j < b.g.ands.length → ∃ i, i < k ∧ ndG g (g.first + i).toNat = true ∧ b.lits.getD (g.first.toNat + i) 0 = 2 * (g.first + j)
theorem sw_kept {g : Aig} (hg : Sml g) : ∀ k, k ≤ g.ands.length → SwK g k (swAt g k)
  | 0, _ => ⟨fun i hi => by omega, fun j hj => by simp [swAt, bgn] at hj⟩
  | k + 1, hk => by
    have ih := sw_kept hg k (by omega)
    have J := sw_inv hg k (by omega)
    have hlt : k < g.ands.length := by omega
    have hlo := hg.lo
    have hf : 1 ≤ g.first := by unfold Aig.first; omega
    have hlen := J.len
    have hmv : ∀ (X : Int) (i : Nat), (h : i < g.ands.length) → i < k + 1 → (moveL ((swAt g k).lits ++ [X]) g.ands[i].1 = moveL (swAt g k).lits g.ands[i].1 ∧ moveL ((swAt g k).lits ++ [X]) g.ands[i].2 = moveL (swAt g k).lits g.ands[i].2) := fun X i h hi => by
      obtain ⟨⟨a1, a2⟩, a3, a4⟩ := gate_bounds hg h
      exact ⟨move_eq (getD_app (by omega)), move_eq (getD_app (by omega))⟩
    unfold swAt
    simp only [ands_getD hlt]
    cases hnd : ndG g (g.first + k).toNat with
    | false =>
      simp only [Bool.false_eq_true, if_false]
      refine ⟨fun i hi h hn => ?_, fun j hj => ?_⟩
      · have hik : i < k := by
          rcases Nat.lt_or_ge i k with q | q
          · exact q
          · have : i = k := by omega
            subst this; rw [hnd] at hn; simp at hn
        obtain ⟨j, hj, e1, e2⟩ := ih.fwd i hik h hn
        refine ⟨j, hj, by simp only; rw [getD_app (by omega)]; exact e1, ?_⟩
        simp only
        rw [(hmv 0 i h hi).1, (hmv 0 i h hi).2]; exact e2
      · obtain ⟨i, hi, e1, e2⟩ := ih.bwd j hj
        exact ⟨i, by omega, e1, by simp only; rw [getD_app (by omega)]; exact e2⟩
    | true =>
      simp only [if_true]
      refine ⟨fun i hi h hn => ?_, fun j hj => ?_⟩
      · by_cases hik : i < k
        · obtain ⟨j, hj, e1, e2⟩ := ih.fwd i hik h hn
          refine ⟨j, by simp only [List.length_append, List.length_cons, List.length_nil]; omega, by simp only; rw [getD_app (by omega)]; exact e1, ?_⟩
          simp only
          rw [List.getElem_append_left hj, (hmv _ i h hi).1, (hmv _ i h hi).2]; exact e2
        · have : i = k := by omega
          subst this
          refine ⟨(swAt g i).g.ands.length, by simp, by simp only; rw [getD_last (by omega)], ?_⟩
          simp
      · simp only [List.length_append, List.length_cons, List.length_nil] at hj
        by_cases hjl : j < (swAt g k).g.ands.length
        · obtain ⟨i, hi, e1, e2⟩ := ih.bwd j hjl
          exact ⟨i, by omega, e1, by simp only; rw [getD_app (by omega)]; exact e2⟩
        · have : j = (swAt g k).g.ands.length := by omega
          subst this
          exact ⟨k, by omega, hnd, by simp only; rw [getD_last (by omega)]⟩
def Nmd (g : Aig) (n : Int) : Prop := (∃ a ∈ rts g, a / 2 = n) ∨ ∃ k, ∃ h : k < g.ands.length, g.ands[k].1 / 2 = n ∨ g.ands[k].2 / 2 = n
theorem end_rts {g : Aig} {b : B} (ho : b.g.outs = []) : rts (endB g (fun _ => none) b) = (rts g).map (moveL b.lits) := by
  rw [endG_eq ho]
  unfold rts endG
  simp only [List.map_append, List.map_map]
  rfl
theorem move_node {lits : List Int} {a X : Int} (h : lits.getD (a / 2).toNat 0 = 2 * X) : moveL lits a / 2 = X := by
  unfold moveL
  rw [h]
  split
  · omega
  · unfold turn; omega
theorem sweep_named {g : Aig} (hg : Sml g) {j : Nat} (hj : j < (sweep g).ands.length) : Nmd (sweep g) (g.first + j) := by
  have K := sw_kept hg g.ands.length (Nat.le_refl _)
  have J := sw_inv hg g.ands.length (Nat.le_refl _)
  have hlo := hg.lo
  have hf : 1 ≤ g.first := by unfold Aig.first; omega
  obtain ⟨i, hi, e1, e2⟩ := K.bwd j hj
  have hn : (g.first + (i : Int)).toNat = g.first.toNat + i := by omega
  rcases nd_inv hg e1 with ⟨a, ha, e⟩ | ⟨k, hk, h1, h2⟩
  · left
    refine ⟨moveL (swAt g g.ands.length).lits a, ?_, move_node (by rw [e, hn]; exact e2)⟩
    unfold sweep
    rw [end_rts J.outs]
    exact List.mem_map_of_mem ha
  · right
    obtain ⟨j', hj', q1, q2⟩ := K.fwd k hk hk h1
    refine ⟨j', hj', ?_⟩
    have : (sweep g).ands[j'] = (moveL (swAt g g.ands.length).lits g.ands[k].1, moveL (swAt g g.ands.length).lits g.ands[k].2) := q2
    rw [this]
    rcases h2 with e | e
    · exact .inl (move_node (by rw [e, hn]; exact e2))
    · exact .inr (move_node (by rw [e, hn]; exact e2))
theorem sweep_first {g : Aig} (hg : Sml g) : (sweep g).first = g.first := by
  rw [show (sweep g).first = (swAt g g.ands.length).g.first from (sweep_ended hg).count.2]
  exact sw_first (sw_inv hg g.ands.length (Nat.le_refl _))
theorem sweep_all {g : Aig} (hg : Sml g) : ∀ d j, j < (sweep g).ands.length → (sweep g).ands.length - j ≤ d → ndG (sweep g) ((sweep g).first + j).toNat = true
  | 0, j, hj, hd => by omega
  | d + 1, j, hj, hd => by
    have hs := (sweep_less hg).sml
    have hlo := hs.lo
    have hf : 1 ≤ (sweep g).first := by unfold Aig.first; omega
    have hfi := sweep_first hg
    rcases sweep_named hg hj with ⟨a, ha, e⟩ | ⟨k, hk, e⟩
    · have := nd_root hs ha
      rw [e, ← hfi] at this; exact this
    · obtain ⟨⟨a1, a2⟩, a3, a4⟩ := gate_bounds hs hk
      have hjk : j < k := by omega
      have := nd_step hs hk (sweep_all hg d k hk (by omega))
      rcases e with e | e
      · rw [e, ← hfi] at this; exact this.1
      · rw [e, ← hfi] at this; exact this.2
theorem ev_get {n m : Nat} (h : m < n) : (evL' n).getD m 0 = 2 * (m : Int) := by
  simp [evL', List.getD_eq_getElem?_getD, h]
theorem move_ev {n : Nat} {a : Int} (h0 : 0 ≤ a) (h : (a / 2).toNat < n) : moveL (evL' n) a = a := by
  unfold moveL
  rw [ev_get h]
  split
  · omega
  · unfold turn; omega
theorem end_same {h : Aig} (hs : Sml h) {b : B} (ho : b.g.outs = []) (hi : b.g.ins = h.ins) (ha : b.g.ands = h.ands) (hl : b.lits = evL' (h.first.toNat + h.ands.length)) : endB h (fun _ => none) b = h := by
  have cf := count_first h
  have hlo := hs.lo
  have hf : 1 ≤ h.first := by unfold Aig.first; omega
  have hm : ∀ a ∈ rts h, moveL b.lits a = a := fun a hr => by
    have := root_lit hs hr
    rw [hl]; exact move_ev this.1 (by omega)
  rw [endG_eq ho]
  unfold endG
  rw [hi, ha]
  have e1 : (h.flops.map fun f => (⟨moveL b.lits f.next, f.init⟩ : Flop)) = h.flops := by
    have : ∀ f ∈ h.flops, (⟨moveL b.lits f.next, f.init⟩ : Flop) = f := fun f hf => by
      rw [hm _ (by unfold rts; exact List.mem_append_right _ (List.mem_map_of_mem hf))]
    conv => rhs; rw [← List.map_id h.flops]
    exact List.map_congr_left this
  have e2 : h.outs.map (moveL b.lits) = h.outs := by
    conv => rhs; rw [← List.map_id h.outs]
    exact List.map_congr_left fun a ha => hm a (by unfold rts; exact List.mem_append_left _ ha)
  rw [e1, e2]
theorem sweep_twice {g : Aig} (hg : Sml g) : sweep (sweep g) = sweep g := by
  have hs := (sweep_less hg).sml
  have hlo := hs.lo
  have hf : 1 ≤ (sweep g).first := by unfold Aig.first; omega
  have key : ∀ k, k ≤ (sweep g).ands.length → (swAt (sweep g) k).lits = evL' ((sweep g).first.toNat + k) ∧ (swAt (sweep g) k).g.ands = (sweep g).ands.take k := fun k => by
    induction k with
    | zero => intro _; exact ⟨(bgn_none hs).1, rfl⟩
    | succ k ih =>
      intro hk
      obtain ⟨h1, h2⟩ := ih (by omega)
      have hlt : k < (sweep g).ands.length := by omega
      have hn := sweep_all hg _ k hlt (Nat.le_refl _)
      obtain ⟨⟨a1, a2⟩, a3, a4⟩ := gate_bounds hs hlt
      unfold swAt
      simp only [ands_getD hlt, hn, if_true]
      have hL : (swAt (sweep g) k).lits ++ [2 * ((sweep g).first + ((swAt (sweep g) k).g.ands.length : Int))] = evL' ((sweep g).first.toNat + (k + 1)) := by
        rw [show (sweep g).first.toNat + (k + 1) = ((sweep g).first.toNat + k) + 1 by omega, evL'_succ, h1, h2]
        congr 2
        rw [List.length_take]; omega
      rw [hL]
      refine ⟨rfl, ?_⟩
      rw [h2, move_ev a1 (by omega), move_ev a3 (by omega), List.take_add_one, List.getElem?_eq_getElem hlt]; rfl
  have J := sw_inv hs (sweep g).ands.length (Nat.le_refl _)
  obtain ⟨h1, h2⟩ := key _ (Nat.le_refl _)
  rw [List.take_length] at h2
  exact end_same hs J.outs J.ins h2 h1

/-! ### Built anew twice -/
def NF (l : List (Int × Int)) : Prop := ∀ k, (h : k < l.length) → l[k].1 ≤ l[k].2 ∧ ¬ (l[k].1 = 0 ∨ l[k].1 = turn l[k].2) ∧ ¬ (l[k].1 = 1 ∨ l[k].1 = l[k].2) ∧ ¬ 0 ≤ idxF (fun x : Int × Int => decide (min x.1 x.2 = l[k].1) && decide (max x.1 x.2 = l[k].2)) (l.take k)
theorem nf_push {g h : Aig} {p q x : Int} (hn : NF g.ands) (ho : g.andO p q = some (h, x)) : NF h.ands := by
  unfold Aig.andO at ho
  simp only at ho
  split at ho
  · simp at ho; rw [← ho.1]; exact hn
  · rename_i c1
    split at ho
    · simp at ho; rw [← ho.1]; exact hn
    · rename_i c2
      split at ho
      · simp at ho; rw [← ho.1]; exact hn
      · rename_i c3
        split at ho
        · simp at ho
        · simp at ho
          rw [← ho.1]
          intro k hk
          simp only [List.length_append, List.length_cons, List.length_nil] at hk
          by_cases hlt : k < g.ands.length
          · simp only [List.getElem_append_left hlt]
            have := hn k hlt
            rw [List.take_append_of_le_length (by omega)]
            exact this
          · have : k = g.ands.length := by omega
            subst this
            simp only [List.getElem_concat_length, List.take_left]
            exact ⟨by omega, c1, c2, c3⟩
theorem nf_hash {g : Aig} (hg : Sml g) (s : Nat → Option Bool) : ∀ k, k ≤ g.ands.length → NF (hashAt g s k).g.ands
  | 0, _ => fun k hk => by simp [hashAt, bgn] at hk
  | k + 1, hk => by
    have ih := nf_hash hg s k (by omega)
    have J := hash_inv hg s k (by omega)
    have hc := J.cnt hg (by omega)
    have hlt : k < g.ands.length := by omega
    obtain ⟨⟨a1, a2⟩, a3, a4⟩ := gate_bounds hg hlt
    have hlo := hg.lo
    have hf : 1 ≤ g.first := by unfold Aig.first; omega
    have x1 := move_lit J.lits a1 (by rw [J.len]; omega)
    have x2 := move_lit J.lits a3 (by rw [J.len]; omega)
    obtain ⟨h, z, e1, e2⟩ := and_some J.chk x1 x2 (by omega)
    unfold hashAt
    simp only [ands_getD hlt]
    unfold andB
    rw [e2]
    exact nf_push ih e1
theorem hash_same {h : Aig} (hs : Sml h) (hn : NF h.ands) : (hashed h fun _ => none) = h := by
  have hlo := hs.lo
  have hf : 1 ≤ h.first := by unfold Aig.first; omega
  have key : ∀ k, k ≤ h.ands.length → (hashAt h (fun _ => none) k).lits = evL' (h.first.toNat + k) ∧ (hashAt h (fun _ => none) k).g.ands = h.ands.take k := fun k => by
    induction k with
    | zero => intro _; exact ⟨(bgn_none hs).1, rfl⟩
    | succ k ih =>
      intro hk
      obtain ⟨h1, h2⟩ := ih (by omega)
      have hlt : k < h.ands.length := by omega
      obtain ⟨⟨a1, a2⟩, a3, a4⟩ := gate_bounds hs hlt
      have J := hash_inv hs (fun _ => none) k (by omega)
      have hc := J.cnt hs (by omega)
      have hlen := J.len
      have x1 := move_lit J.lits a1 (by omega)
      have x2 := move_lit J.lits a3 (by omega)
      rw [h1, move_ev a1 (by omega)] at x1
      rw [h1, move_ev a3 (by omega)] at x2
      obtain ⟨g', z, e1, e2⟩ := and_some J.chk x1 x2 (by omega)
      obtain ⟨n1, n2, n3, n4⟩ := hn k hlt
      have hmn : min h.ands[k].1 h.ands[k].2 = h.ands[k].1 := by omega
      have hmx : max h.ands[k].1 h.ands[k].2 = h.ands[k].2 := by omega
      have hpush : (hashAt h (fun _ => none) k).g.andO h.ands[k].1 h.ands[k].2 = some ({ (hashAt h (fun _ => none) k).g with ands := (hashAt h (fun _ => none) k).g.ands ++ [h.ands[k]] }, 2 * ((hashAt h (fun _ => none) k).g.count + 1)) := by
        unfold Aig.andO
        simp only
        rw [hmn, hmx, if_neg n2, if_neg n3]
        unfold Aig.find
        rw [h2, if_neg n4, if_neg (by omega)]
      rw [hpush] at e1
      simp only [Option.some.injEq, Prod.mk.injEq] at e1
      have hcnt : (hashAt h (fun _ => none) k).g.count + 1 = h.first + k := by
        have := none_len h h.flops.length
        simp only [Aig.count, J.ins, J.flops, this, h2, List.length_take, Aig.first]; omega
      unfold hashAt
      simp only [ands_getD hlt]
      unfold andB
      rw [h1, move_ev a1 (by omega), move_ev a3 (by omega), e2, ← e1.1, ← e1.2, hcnt]
      simp only
      refine ⟨?_, ?_⟩
      · rw [show h.first.toNat + (k + 1) = (h.first.toNat + k) + 1 by omega, evL'_succ]
        congr 2; omega
      · rw [h2, List.take_add_one, List.getElem?_eq_getElem hlt]; rfl
  have J := hash_inv hs (fun _ => none) h.ands.length (Nat.le_refl _)
  obtain ⟨h1, h2⟩ := key _ (Nat.le_refl _)
  rw [List.take_length] at h2
  exact end_same hs J.outs J.ins h2 h1
theorem hash_twice {g : Aig} (hg : Sml g) : (hashed (hashed g fun _ => none) fun _ => none) = hashed g fun _ => none :=
  hash_same (hash_less hg _).sml (nf_hash hg _ _ (Nat.le_refl _))
end Fil.Rw

namespace Go.Proofs.Ytapnlmhfacoceaa
open Abs Fil Fil.Rw
theorem ops_mem' {g : Aig} {i : Nat} (h : i < g.ands.length) : g.ands[i].1 ∈ opsG g ∧ g.ands[i].2 ∈ opsG g := by
  unfold opsG
  exact ⟨List.mem_flatMap.2 ⟨_, List.getElem_mem h, by simp⟩, List.mem_flatMap.2 ⟨_, List.getElem_mem h, by simp⟩⟩
theorem mark_one {v : List Bool} {l : List Int} {n : Nat} (hn : n < v.length) (h : ∃ a ∈ l, (a / 2).toNat = n) : (Rw.mark v l).getD n false = true := (mark_get n l v).2 (.inr ⟨hn, h⟩)
set_option maxHeartbeats 8000000 in
theorem law_named (g : Aig) (σ : Sig) (hg : Sml g) (hn : ∀ j, j < g.ands.length → Nmd g (g.first + j)) : ACalls Try.prog 28 [encAig g] σ (fun r σ' => r = .ret (.bool true) ∧ σ' = σ) := by
  refine calls_x mixed Try.func28 b28 n28 rfl q28 (by simp) ?_; unfold c28 r28
  have hlo := hg.lo
  have h1 := hg.ins
  have h2 := hg.flops
  have h3 := hg.ands
  have h4 := hg.outs
  have ez : ((0 : Int) != 0) = false := by decide
  have hsm : Small g := check_small hg.wf hg.chk
  have hk := fun τ => A.ref_Check g τ hg.wf
  rw [hg.chk] at hk
  have hc := fun τ => A.ref_Count g τ hsm
  obtain ⟨N, hN⟩ : ∃ N, (1 + g.count).toNat = N := ⟨_, rfl⟩
  have hcnt : g.count = g.ins + g.flops.length + g.ands.length := rfl
  have hN' : 1 + g.count = (N : Int) := by omega
  have hN1 : N ≤ 400 := by omega
  rw [hN'] at hc
  repeat' (first | simp (maxDischargeDepth := 9) -implicitDefEqProofs -dsimp only [go_sem, seval, *] | simp (disch := omega) only [wrap64, tdiv2] | ((with_reducible refine Zv ?_ ?_); focus (first | omega | exact rfl)) | ((with_reducible refine Zu ?_ ?_); focus omega) | ((with_reducible refine Zt (fun oF hoF hnF hnF' => ?_)); clear hnF hnF'; (try simp only [Zw, ne_eq] at hoF)) | ((with_reducible apply ACalls.one1); (focus ((first | with_reducible refine hk _ | with_reducible refine hc _) <;> (first | (simp (maxDischargeDepth := 9) -implicitDefEqProofs -dsimp only [go_sem, seval, *]; done) | omega))); (focus (first | trivial | with_reducible exact rfl | (simp (maxDischargeDepth := 9) -implicitDefEqProofs -dsimp only [go_sem, seval]; done)))))
  obtain ⟨o, eo⟩ : ∃ x, x = oF := ⟨oF, rfl⟩
  subst eo
  have ho : σ o = none := hoF
  clear hoF hc hk
  obtain ⟨v0, hv0⟩ : ∃ v, List.replicate N false = v := ⟨_, rfl⟩
  have hv0l : v0.length = N := by rw [← hv0]; simp
  have hrep : (List.replicate N [AV.bool false]).flatten = v0.map encBool := by rw [rep_bool, hv0]
  have hrl := fun a (ha : a ∈ rts g) => root_lit hg ha
  refine loop_rule (fun i : Nat => [(4, some (.int .i64 i)), (1, some (.cptr (aigL g))), (3, some (.vec o N))])
    (fun i => upd σ o (.vec 1 N ((Rw.mark v0 ((opsG g).take (2 * i))).map encBool))) (fun i => i ≤ g.ands.length) (fun i => g.ands.length - i) 0 ?_ ?_
  · have e0 : Rw.mark v0 ((opsG g).take 0) = v0 := rfl
    have e1 : Rw.mark v0 [] = v0 := rfl
    (repeat' (first | simp (maxDischargeDepth := 9) -implicitDefEqProofs -dsimp only [go_sem, seval, e0, e1, Int.natCast_zero, Nat.mul_zero, *] | simp (disch := omega) only [wrap64, tdiv2])) <;> (repeat' refine And.intro ?_ ?_) <;> (first | omega | rfl | assumption | skip)
  · intro i hi
    have hml : (Rw.mark v0 ((opsG g).take (2 * i))).length = N := by rw [mark_len, hv0l]
    by_cases hlt : i < g.ands.length
    · have hlt' : (i : Int) < g.ands.length := by omega
      obtain ⟨t1, t2⟩ := ops_take g hlt
      have hms := mark_snoc v0 ((opsG g).take (2 * i)) g.ands[i].1
      have hms2 := mark_snoc v0 ((opsG g).take (2 * i) ++ [g.ands[i].1]) g.ands[i].2
      rw [hms] at hms2
      rw [← t1, ← t2] at hms2
      obtain ⟨⟨a1, a2⟩, a3, a4⟩ := gate_bounds hg hlt
      have hfst : g.first = 1 + g.ins + g.flops.length := rfl
      obtain ⟨x0, hx0⟩ : ∃ x, g.ands[i].1 = x := ⟨_, rfl⟩
      obtain ⟨x1, hx1⟩ : ∃ x, g.ands[i].2 = x := ⟨_, rfl⟩
      rw [hx0, hx1] at hms2
      rw [hx0] at a1 a2
      rw [hx1] at a3 a4
      obtain ⟨l, hl⟩ : ∃ l, Rw.mark v0 ((opsG g).take (2 * i)) = l := ⟨_, rfl⟩
      rw [hl] at hms2 hml ⊢
      have hp := put_bool l (x0 / 2).toNat true (by omega)
      have hp2 := put_bool (l.set (x0 / 2).toNat true) (x1 / 2).toNat true (by rw [List.length_set]; omega)
      have hpl : (List.take ((x0 / 2).toNat * 1) (l.map encBool)).length + 1 + (List.drop ((x0 / 2).toNat * 1 + 1) (l.map encBool)).length = N := by
        simp only [List.length_take, List.length_drop, List.length_map]; omega
      have b2 : x0 / 2 < N := by omega
      have b3 : x1 / 2 < N := by omega
      have b5 : x0 ≤ 1000000 := by omega
      have b6 : x1 ≤ 1000000 := by omega
      have e2 : 2 * (i + 1) = 2 * i + 2 := by omega
      rw [← e2] at hms2
      clear hrl hl hN hN' hcnt hv0 hrep hv0l hfst a2 a4 hms t1 t2 hn e2
      repeat' (first | simp (maxDischargeDepth := 9) -implicitDefEqProofs -dsimp only [go_sem, seval, *] | simp (disch := omega) only [wrap64, tdiv2] | ((with_reducible refine Zv ?_ ?_); focus (first | omega | exact rfl)) | ((with_reducible refine Zu ?_ ?_); focus omega) | ((with_reducible refine Zt (fun oF hoF hnF hnF' => ?_)); clear hnF hnF'; (try simp only [Zw, ne_eq] at hoF)))
      refine loop_next _ _ _ _ (i + 1) ?_; (repeat' (first | simp (maxDischargeDepth := 9) -implicitDefEqProofs -dsimp only [go_sem, seval, *] | simp (disch := omega) only [wrap64, tdiv2])) <;> (repeat' refine And.intro ?_ ?_) <;> (first | omega | rfl | assumption | skip)
    · have hlt' : ¬ (i : Int) < g.ands.length := by omega
      have ei : i = g.ands.length := by omega
      subst ei
      have e0 : (opsG g).take (2 * g.ands.length) = opsG g := List.take_of_length_le (by rw [opsG_len]; exact Nat.le_refl _)
      rw [e0] at hml ⊢
      obtain ⟨v1, hv1⟩ : ∃ v, Rw.mark v0 (opsG g) = v := ⟨_, rfl⟩
      rw [hv1] at hml ⊢
      clear hlt hi e0
      repeat' (first | simp (maxDischargeDepth := 9) -implicitDefEqProofs -dsimp only [go_sem, seval, *] | simp (disch := omega) only [wrap64, tdiv2] | ((with_reducible refine Zv ?_ ?_); focus (first | omega | exact rfl)) | ((with_reducible refine Zu ?_ ?_); focus omega) | ((with_reducible refine Zt (fun oF hoF hnF hnF' => ?_)); clear hnF hnF'; (try simp only [Zw, ne_eq] at hoF)))
      refine loop_rule (fun i : Nat => [(5, some (.int .i64 i)), (1, some (.cptr (aigL g))), (3, some (.vec o N))])
        (fun i => upd σ o (.vec 1 N ((Rw.mark v1 (g.outs.take i)).map encBool))) (fun i => i ≤ g.outs.length) (fun i => g.outs.length - i) 0 ?_ ?_
      · have e0 : Rw.mark v1 [] = v1 := rfl
        (repeat' (first | simp (maxDischargeDepth := 9) -implicitDefEqProofs -dsimp only [go_sem, seval, e0, Int.natCast_zero, *] | simp (disch := omega) only [wrap64, tdiv2])) <;> (repeat' refine And.intro ?_ ?_) <;> (first | omega | rfl | assumption | skip)
      · intro i hi
        have hml2 : (Rw.mark v1 (g.outs.take i)).length = N := by rw [mark_len, hml]
        by_cases hlt : i < g.outs.length
        · have hlt' : (i : Int) < g.outs.length := by omega
          have hms := mark_snoc v1 (g.outs.take i) g.outs[i]
          rw [← take_snoc hlt] at hms
          have hb := hrl g.outs[i] (by unfold rts; exact List.mem_append_left _ (List.getElem_mem hlt))
          obtain ⟨a, ha⟩ : ∃ a, g.outs[i] = a := ⟨_, rfl⟩
          rw [ha] at hms hb
          obtain ⟨l, hl⟩ : ∃ l, Rw.mark v1 (g.outs.take i) = l := ⟨_, rfl⟩
          rw [hl] at hms hml2 ⊢
          have hp := put_bool l (a / 2).toNat true (by omega)
          have hb1 := hb.1
          have hb2 : a / 2 < N := by omega
          have hb3 : a ≤ 1000000 := by omega
          clear hrl hl hb hN hN' hcnt hv0 hrep hv0l hn hml hv1
          repeat' (first | simp (maxDischargeDepth := 9) -implicitDefEqProofs -dsimp only [go_sem, seval, *] | simp (disch := omega) only [wrap64, tdiv2] | ((with_reducible refine Zv ?_ ?_); focus (first | omega | exact rfl)) | ((with_reducible refine Zu ?_ ?_); focus omega) | ((with_reducible refine Zt (fun oF hoF hnF hnF' => ?_)); clear hnF hnF'; (try simp only [Zw, ne_eq] at hoF)))
          refine loop_next _ _ _ _ (i + 1) ?_; (repeat' (first | simp (maxDischargeDepth := 9) -implicitDefEqProofs -dsimp only [go_sem, seval, *] | simp (disch := omega) only [wrap64, tdiv2])) <;> (repeat' refine And.intro ?_ ?_) <;> (first | omega | rfl | assumption | skip)
        · have hlt' : ¬ (i : Int) < g.outs.length := by omega
          have ei : i = g.outs.length := by omega
          subst ei
          have e0 : g.outs.take g.outs.length = g.outs := List.take_length
          rw [e0] at hml2 ⊢
          obtain ⟨v2, hv2⟩ : ∃ v, Rw.mark v1 g.outs = v := ⟨_, rfl⟩
          rw [hv2] at hml2 ⊢
          clear hlt hi e0
          repeat' (first | simp (maxDischargeDepth := 9) -implicitDefEqProofs -dsimp only [go_sem, seval, *] | simp (disch := omega) only [wrap64, tdiv2] | ((with_reducible refine Zv ?_ ?_); focus (first | omega | exact rfl)) | ((with_reducible refine Zu ?_ ?_); focus omega) | ((with_reducible refine Zt (fun oF hoF hnF hnF' => ?_)); clear hnF hnF'; (try simp only [Zw, ne_eq] at hoF)))
          refine loop_rule (fun i : Nat => [(6, some (.int .i64 i)), (1, some (.cptr (aigL g))), (3, some (.vec o N))])
            (fun i => upd σ o (.vec 1 N ((Rw.mark v2 ((g.flops.map (·.next)).take i)).map encBool))) (fun i => i ≤ g.flops.length) (fun i => g.flops.length - i) 0 ?_ ?_
          · have e0 : Rw.mark v2 [] = v2 := rfl
            (repeat' (first | simp (maxDischargeDepth := 9) -implicitDefEqProofs -dsimp only [go_sem, seval, e0, Int.natCast_zero, *] | simp (disch := omega) only [wrap64, tdiv2])) <;> (repeat' refine And.intro ?_ ?_) <;> (first | omega | rfl | assumption | skip)
          · intro i hi
            have hml3 : (Rw.mark v2 ((g.flops.map (·.next)).take i)).length = N := by rw [mark_len, hml2]
            by_cases hlt : i < g.flops.length
            · have hlt' : (i : Int) < g.flops.length := by omega
              have hms := mark_snoc v2 ((g.flops.map (·.next)).take i) g.flops[i].next
              have hsn := take_snoc (l := g.flops.map (·.next)) (i := i) (by simpa using hlt)
              rw [List.getElem_map] at hsn
              rw [← hsn] at hms
              have hb := hrl g.flops[i].next (by unfold rts; exact List.mem_append_right _ (List.mem_map_of_mem (List.getElem_mem hlt)))
              obtain ⟨f, hf'⟩ : ∃ f, g.flops[i] = f := ⟨_, rfl⟩
              rw [hf'] at hms hb
              obtain ⟨a, ha⟩ : ∃ a, f.next = a := ⟨_, rfl⟩
              rw [ha] at hms hb
              obtain ⟨l, hl⟩ : ∃ l, Rw.mark v2 ((g.flops.map (·.next)).take i) = l := ⟨_, rfl⟩
              rw [hl] at hms hml3 ⊢
              have hp := put_bool l (a / 2).toNat true (by omega)
              have hb1 := hb.1
              have hb2 : a / 2 < N := by omega
              have hb3 : a ≤ 1000000 := by omega
              clear hrl hl hb hN hN' hcnt hv0 hrep hv0l hsn hn hml hml2 hv1 hv2
              repeat' (first | simp (maxDischargeDepth := 9) -implicitDefEqProofs -dsimp only [go_sem, seval, *] | simp (disch := omega) only [wrap64, tdiv2] | ((with_reducible refine Zv ?_ ?_); focus (first | omega | exact rfl)) | ((with_reducible refine Zu ?_ ?_); focus omega) | ((with_reducible refine Zt (fun oF hoF hnF hnF' => ?_)); clear hnF hnF'; (try simp only [Zw, ne_eq] at hoF)))
              refine loop_next _ _ _ _ (i + 1) ?_; (repeat' (first | simp (maxDischargeDepth := 9) -implicitDefEqProofs -dsimp only [go_sem, seval, *] | simp (disch := omega) only [wrap64, tdiv2])) <;> (repeat' refine And.intro ?_ ?_) <;> (first | omega | rfl | assumption | skip)
            · have hlt' : ¬ (i : Int) < g.flops.length := by omega
              have ei : i = g.flops.length := by omega
              subst ei
              have e1 : (g.flops.map (·.next)).take g.flops.length = g.flops.map (·.next) := List.take_of_length_le (by simp)
              rw [e1] at hml3 ⊢
              obtain ⟨v3, hv3⟩ : ∃ v, Rw.mark v2 (g.flops.map (·.next)) = v := ⟨_, rfl⟩
              rw [hv3] at hml3 ⊢
              have hfst : g.first = 1 + g.ins + g.flops.length := rfl
              obtain ⟨f, hfN⟩ : ∃ f, g.first.toNat = f := ⟨_, rfl⟩
              have hff : g.first = (f : Int) := by omega
              have hft : 1 + g.ins + (g.flops.length : Int) = (f : Int) := by omega
              have hall : ∀ n, f ≤ n → n < N → v3.getD n false = true := fun n q1 q2 => by
                have hj := hn (n - f) (by omega)
                rw [hff, show (f : Int) + ((n - f : Nat) : Int) = (n : Int) by omega] at hj
                rw [← hv3, ← hv2, ← hv1]
                rcases hj with ⟨a, ha, e⟩ | ⟨k, hk, e⟩
                · unfold rts at ha
                  rcases List.mem_append.1 ha with q | q
                  · refine (mark_get _ _ _).2 (.inl (mark_one (by rw [mark_len, hv0l]; exact q2) ⟨a, q, by omega⟩))
                  · exact mark_one (by rw [mark_len, mark_len, hv0l]; exact q2) ⟨a, q, by omega⟩
                · have hom := ops_mem' hk
                  refine (mark_get _ _ _).2 (.inl ((mark_get _ _ _).2 (.inl ?_)))
                  rcases e with e | e
                  · exact mark_one (by rw [hv0l]; exact q2) ⟨_, hom.1, by omega⟩
                  · exact mark_one (by rw [hv0l]; exact q2) ⟨_, hom.2, by omega⟩
              have hf1 : f ≤ N := by omega
              have hf2 : (g.flops.length : Int) ≤ 60 := by omega
              have hi1 : g.ins ≤ 60 := h1
              clear hlt hi e1 hv1 hv2 hv3 hn hrl hcnt hN hN' hv0 hrep hv0l hml hml2 hff hfN hfst
              repeat' (first | simp (maxDischargeDepth := 9) -implicitDefEqProofs -dsimp only [go_sem, seval, *] | simp (disch := omega) only [wrap64, tdiv2] | ((with_reducible refine Zv ?_ ?_); focus (first | omega | exact rfl)) | ((with_reducible refine Zu ?_ ?_); focus omega) | ((with_reducible refine Zt (fun oF hoF hnF hnF' => ?_)); clear hnF hnF'; (try simp only [Zw, ne_eq] at hoF)))
              refine loop_rule (fun n : Nat => [(7, some (.int .i64 n)), (3, some (.vec o N))])
                (fun n => upd σ o (.vec 1 N (v3.map encBool))) (fun n => f ≤ n ∧ n ≤ N) (fun n => N - n) f ?_ ?_
              · (repeat' (first | simp (maxDischargeDepth := 9) -implicitDefEqProofs -dsimp only [go_sem, seval, *] | simp (disch := omega) only [wrap64, tdiv2])) <;> (repeat' refine And.intro ?_ ?_) <;> (first | omega | rfl | assumption | skip)
              · rintro n ⟨hn1, hn2⟩
                by_cases hlt : n < N
                · have hlt' : (n : Int) < N := by omega
                  have hb := hall n hn1 hlt
                  have hd := head_bool (l := v3) (i := n) (by omega)
                  rw [hb] at hd
                  clear hall hb
                  repeat' (first | simp (maxDischargeDepth := 9) -implicitDefEqProofs -dsimp only [go_sem, seval, *] | simp (disch := omega) only [wrap64, tdiv2] | ((with_reducible refine Zv ?_ ?_); focus (first | omega | exact rfl)) | ((with_reducible refine Zu ?_ ?_); focus omega) | ((with_reducible refine Zt (fun oF hoF hnF hnF' => ?_)); clear hnF hnF'; (try simp only [Zw, ne_eq] at hoF)))
                  refine loop_next _ _ _ _ (n + 1) ?_; (repeat' (first | simp (maxDischargeDepth := 9) -implicitDefEqProofs -dsimp only [go_sem, seval, *] | simp (disch := omega) only [wrap64, tdiv2])) <;> (repeat' refine And.intro ?_ ?_) <;> (first | omega | rfl | assumption | skip)
                · have hlt' : ¬ (n : Int) < N := by omega
                  clear hall
                  repeat' (first | simp (maxDischargeDepth := 9) -implicitDefEqProofs -dsimp only [go_sem, seval, *] | simp (disch := omega) only [wrap64, tdiv2] | ((with_reducible refine Zv ?_ ?_); focus (first | omega | exact rfl)) | ((with_reducible refine Zu ?_ ?_); focus omega) | ((with_reducible refine Zt (fun oF hoF hnF hnF' => ?_)); clear hnF hnF'; (try simp only [Zw, ne_eq] at hoF)))
                  refine fin_eq ?_
                  (repeat' (first | simp (maxDischargeDepth := 9) -implicitDefEqProofs -dsimp only [go_sem, seval, *] | simp (disch := omega) only [wrap64, tdiv2])) <;> (repeat' refine And.intro ?_ ?_) <;> (first | omega | rfl | assumption | skip)
set_option maxRecDepth 20000 in
set_option maxHeartbeats 8000000 in
theorem rewrNeeded_ok (g : Aig) (σ : Sig) (hw : Wide g) : ACalls Try.prog 8 [encAig g] σ (fun r σ' => r = .ret (.bool true) ∧ σ' = σ) := by
  refine calls_x mixed Try.func8 b8 n8 rfl q8 (by simp) ?_; unfold c8 r8
  have hf := law_few g
  have ez : ((0 : Int) != 0) = false := by decide
  have ee : ((0 : Int) == 0) = true := by decide
  cases hfw : fewR g with
  | false =>
    rw [hfw] at hf
    clear hfw hw
    repeat' (first | simp (maxDischargeDepth := 9) -implicitDefEqProofs -dsimp only [go_sem, seval, *] | ((with_reducible refine Zt (fun oF hoF hnF hnF' => ?_)); clear hnF hnF'; (try simp only [Zw, ne_eq] at hoF)) | ((with_reducible apply ACalls.one1); (focus ((first | with_reducible refine law_live _ | with_reducible refine hf _) <;> (first | (simp (maxDischargeDepth := 9) -implicitDefEqProofs -dsimp only [go_sem, seval, *]; done) | omega))); (focus (first | trivial | with_reducible exact rfl | (simp (maxDischargeDepth := 9) -implicitDefEqProofs -dsimp only [go_sem, seval]; done)))))
    refine fin_eq ?_
    (repeat' (first | simp (maxDischargeDepth := 9) -implicitDefEqProofs -dsimp only [go_sem, seval, *])) <;> (repeat' refine And.intro ?_ ?_) <;> (first | omega | rfl | assumption | skip)
  | true =>
    rw [hfw] at hf
    obtain ⟨wf, hs⟩ := few_sml hw hfw
    have hck := fun τ => A.aig_Check g τ wf
    by_cases hc : g.check = 0
    · have hg := hs hc
      rw [hc] at hck
      have s0 := (bal_less (still_less (hash_less hg fun _ => none).sml).sml).sml
      have c1 := fun τ => rw_Sweep g τ hg
      have c2 := fun τ => rw_Best g τ hg
      have n1 := fun τ => law_named (sweep g) τ (sweep_less hg).sml fun j hj => by rw [sweep_first hg]; exact sweep_named hg hj
      have n2 := fun τ => law_named (best g) τ (best_less hg).sml fun j hj => by
        unfold best at hj ⊢
        rw [sweep_first s0]; exact sweep_named s0 hj
      have b1 : (((sweep g).outs.length : Int) == (g.outs.length : Int)) = true := by rw [(sweep_less hg).outs]; simp
      have b2 : (((best g).outs.length : Int) == (g.outs.length : Int)) = true := by rw [(best_less hg).outs]; simp
      clear hfw hw hs wf hc hg s0
      repeat' (first | simp (maxDischargeDepth := 9) -implicitDefEqProofs -dsimp only [go_sem, seval, *] | ((with_reducible refine Zt (fun oF hoF hnF hnF' => ?_)); clear hnF hnF'; (try simp only [Zw, ne_eq] at hoF)) | ((with_reducible apply ACalls.one1); (focus ((first | with_reducible refine law_live _ | with_reducible refine hf _ | with_reducible refine hck _ | with_reducible refine c1 _ | with_reducible refine c2 _ | with_reducible refine n1 _ | with_reducible refine n2 _) <;> (first | (simp (maxDischargeDepth := 9) -implicitDefEqProofs -dsimp only [go_sem, seval, *]; done) | omega))); (focus (first | trivial | with_reducible exact rfl | (simp (maxDischargeDepth := 9) -implicitDefEqProofs -dsimp only [go_sem, seval]; done)))))
      refine fin_eq ?_
      (repeat' (first | simp (maxDischargeDepth := 9) -implicitDefEqProofs -dsimp only [go_sem, seval, *])) <;> (repeat' refine And.intro ?_ ?_) <;> (first | omega | rfl | assumption | skip)
    · have hb : (g.check != 0) = true := by simpa using hc
      clear hfw hw hs wf
      repeat' (first | simp (maxDischargeDepth := 9) -implicitDefEqProofs -dsimp only [go_sem, seval, *] | ((with_reducible refine Zt (fun oF hoF hnF hnF' => ?_)); clear hnF hnF'; (try simp only [Zw, ne_eq] at hoF)) | ((with_reducible apply ACalls.one1); (focus ((first | with_reducible refine law_live _ | with_reducible refine hf _ | with_reducible refine hck _) <;> (first | (simp (maxDischargeDepth := 9) -implicitDefEqProofs -dsimp only [go_sem, seval, *]; done) | omega))); (focus (first | trivial | with_reducible exact rfl | (simp (maxDischargeDepth := 9) -implicitDefEqProofs -dsimp only [go_sem, seval]; done)))))
      refine fin_eq ?_
      (repeat' (first | simp (maxDischargeDepth := 9) -implicitDefEqProofs -dsimp only [go_sem, seval, *])) <;> (repeat' refine And.intro ?_ ?_) <;> (first | omega | rfl | assumption | skip)
end Go.Proofs.Ytapnlmhfacoceaa

namespace Go.Proofs.Ytapnlmhfacoceaa
open Abs Fil Fil.Rw
set_option maxRecDepth 20000 in
set_option maxHeartbeats 8000000 in
theorem rewrTwice_ok (g : Aig) (σ : Sig) (hw : Wide g) : ACalls Try.prog 7 [encAig g] σ (fun r σ' => r = .ret (.bool true) ∧ σ' = σ) := by
  refine calls_x mixed Try.func7 b7 n7 rfl q7 (by simp) ?_; unfold c7 r7
  have hf := law_few g
  have ez : ((0 : Int) != 0) = false := by decide
  have ee : ((0 : Int) == 0) = true := by decide
  cases hfw : fewR g with
  | false =>
    rw [hfw] at hf
    clear hfw hw
    repeat' (first | simp (maxDischargeDepth := 9) -implicitDefEqProofs -dsimp only [go_sem, seval, *] | ((with_reducible refine Zt (fun oF hoF hnF hnF' => ?_)); clear hnF hnF'; (try simp only [Zw, ne_eq] at hoF)) | ((with_reducible apply ACalls.one1); (focus ((first | with_reducible refine law_live _ | with_reducible refine hf _) <;> (first | (simp (maxDischargeDepth := 9) -implicitDefEqProofs -dsimp only [go_sem, seval, *]; done) | omega))); (focus (first | trivial | with_reducible exact rfl | (simp (maxDischargeDepth := 9) -implicitDefEqProofs -dsimp only [go_sem, seval]; done)))))
    refine fin_eq ?_
    (repeat' (first | simp (maxDischargeDepth := 9) -implicitDefEqProofs -dsimp only [go_sem, seval, *])) <;> (repeat' refine And.intro ?_ ?_) <;> (first | omega | rfl | assumption | skip)
  | true =>
    rw [hfw] at hf
    obtain ⟨wf, hs⟩ := few_sml hw hfw
    have hck := fun τ => A.aig_Check g τ wf
    by_cases hc : g.check = 0
    · have hg := hs hc
      rw [hc] at hck
      have s1 := (sweep_less hg).sml
      have s2 := (hash_less hg fun _ => none).sml
      have c1 := fun τ => rw_Sweep g τ hg
      have c2 := fun τ => rw_Hash g τ hg
      have c3 := fun τ => rw_Sweep (sweep g) τ s1
      have c4 := fun τ => rw_Hash (hashM g) τ s2
      have e1 := sweep_twice hg
      have e2 : hashM (hashM g) = hashM g := hash_twice hg
      rw [e1] at c3
      rw [e2] at c4
      have b1 := s1.flops
      have b2 := s1.ands
      have b3 := s1.outs
      have b4 : (hashM g).flops.length ≤ 60 := s2.flops
      have b5 : (hashM g).ands.length ≤ 200 := s2.ands
      have b6 : (hashM g).outs.length ≤ 60 := s2.outs
      have q1 := fun τ => A.ref_Same (sweep g) (sweep g) τ (by omega) (by omega) (by omega)
      have q2 := fun τ => A.ref_Same (hashM g) (hashM g) τ (by omega) (by omega) (by omega)
      have hl : ((sweep g).ands.length : Int) ≤ g.ands.length := by have := (sweep_less hg).ands; omega
      obtain ⟨a, ha⟩ : ∃ a, sweep g = a := ⟨_, rfl⟩
      obtain ⟨c, hc'⟩ : ∃ a, hashM g = a := ⟨_, rfl⟩
      rw [ha] at c1 c3 q1 hl
      rw [hc'] at c2 c4 q2
      clear hfw hw hs wf hc hg s1 s2 e1 e2 b1 b2 b3 b4 b5 b6 ha hc'
      repeat' (first | simp (maxDischargeDepth := 9) -implicitDefEqProofs -dsimp only [go_sem, seval, decide_true, *] | ((with_reducible refine Zt (fun oF hoF hnF hnF' => ?_)); clear hnF hnF'; (try simp only [Zw, ne_eq] at hoF)) | ((with_reducible apply ACalls.one1); (focus ((first | with_reducible refine law_live _ | with_reducible refine hf _ | with_reducible refine hck _ | with_reducible refine c1 _ | with_reducible refine c2 _ | with_reducible refine c3 _ | with_reducible refine c4 _ | with_reducible refine q1 _ | with_reducible refine q2 _) <;> (first | (simp (maxDischargeDepth := 9) -implicitDefEqProofs -dsimp only [go_sem, seval, *]; done) | omega))); (focus (first | trivial | with_reducible exact rfl | (simp (maxDischargeDepth := 9) -implicitDefEqProofs -dsimp only [go_sem, seval]; done)))))
      refine fin_eq ?_
      (repeat' (first | simp (maxDischargeDepth := 9) -implicitDefEqProofs -dsimp only [go_sem, seval, *])) <;> (repeat' refine And.intro ?_ ?_) <;> (first | omega | rfl | assumption | skip)
    · have hb : (g.check != 0) = true := by simpa using hc
      clear hfw hw hs wf
      repeat' (first | simp (maxDischargeDepth := 9) -implicitDefEqProofs -dsimp only [go_sem, seval, *] | ((with_reducible refine Zt (fun oF hoF hnF hnF' => ?_)); clear hnF hnF'; (try simp only [Zw, ne_eq] at hoF)) | ((with_reducible apply ACalls.one1); (focus ((first | with_reducible refine law_live _ | with_reducible refine hf _ | with_reducible refine hck _) <;> (first | (simp (maxDischargeDepth := 9) -implicitDefEqProofs -dsimp only [go_sem, seval, *]; done) | omega))); (focus (first | trivial | with_reducible exact rfl | (simp (maxDischargeDepth := 9) -implicitDefEqProofs -dsimp only [go_sem, seval]; done)))))
      refine fin_eq ?_
      (repeat' (first | simp (maxDischargeDepth := 9) -implicitDefEqProofs -dsimp only [go_sem, seval, *])) <;> (repeat' refine And.intro ?_ ?_) <;> (first | omega | rfl | assumption | skip)
end Go.Proofs.Ytapnlmhfacoceaa

