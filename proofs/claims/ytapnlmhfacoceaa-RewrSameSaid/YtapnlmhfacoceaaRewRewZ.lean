/- rewr: RewrNext, RewrSame. -/
import Derived.Test.YtapnlmhfacoceaaRwSem2
set_option linter.unusedSimpArgs false
set_option linter.unusedVariables false
namespace Fil.Rw
open Abs
open Eqv (moveL)
def Ag (K : List Kn) (V : List Bool) : Prop := ∀ n v, K.getD n none = some v → V.getD n false = v
theorem kOf_ok {K : List Kn} {V : List Bool} (h : Ag K V) {a : Int} {v : Bool} (hk : kOf K a = some v) : Aig.val V a = v := by
  unfold kOf at hk
  by_cases he : a % 2 = 1
  · rw [if_pos he] at hk
    rw [val_odd (by omega)]
    cases hq : K.getD (a / 2).toNat none with
    | none => rw [hq] at hk; simp [kTurn] at hk
    | some b =>
      rw [hq] at hk
      simp only [kTurn, Option.some.injEq] at hk
      rw [h _ _ hq, hk]
  · rw [if_neg he] at hk
    rw [val_even (by omega)]
    exact h _ _ hk
theorem kBoth_ok {a b : Kn} {x y v : Bool} (ha : ∀ u, a = some u → x = u) (hb : ∀ u, b = some u → y = u) (h : kBoth a b = some v) : (x && y) = v := by
  rcases a with _ | _ | _
  · rcases b with _ | _ | _ <;> simp [kBoth] at h
    rw [hb _ rfl]; subst h; simp
  · simp [kBoth] at h
    rw [ha _ rfl]; subst h; rfl
  · simp only [kBoth] at h
    rw [ha _ rfl, hb _ h]; simp
theorem gn_app {l m : List Kn} {n : Nat} (h : n < l.length) : (l ++ m).getD n none = l.getD n none := by
  simp only [List.getD_eq_getElem?_getD, List.getElem?_append_left h]
theorem gn_last {l : List Kn} {x : Kn} {n : Nat} (h : n = l.length) : (l ++ [x]).getD n none = x := by
  subst h; simp [List.getD_eq_getElem?_getD]
theorem gn_out {l : List Kn} {n : Nat} (h : l.length ≤ n) : l.getD n none = none := by
  simp [List.getD_eq_getElem?_getD, List.getElem?_eq_none h]
def Hs (g : Aig) (so : List Bool) (st : List Bool) : Prop := ∀ i v, stl g so i = some v → st.getD i false = v
theorem ag_fl {g : Aig} (hg : Sml g) {so inp st : List Bool} (hi : (inp.length : Int) = g.ins) (hs : Hs g so st) : ∀ i, i ≤ st.length → Ag (kFl g so i) (false :: (inp ++ st))
  | 0, _ => fun n v h => by
    unfold kFl at h
    cases n with
    | zero => simp at h; subst h; rfl
    | succ n =>
      simp only [List.getD_cons_succ] at h
      simp only [List.getD_eq_getElem?_getD, List.getElem?_replicate] at h
      split at h <;> simp at h
  | i + 1, hi' => fun n v h => by
    have ih := ag_fl hg hi hs i (by omega)
    have hl := kFl_len g so i
    have hlo := hg.lo
    unfold kFl at h
    by_cases h1 : n < (kFl g so i).length
    · rw [gn_app h1] at h; exact ih n v h
    · by_cases h2 : n = (kFl g so i).length
      · rw [gn_last h2] at h
        have := hs i v h
        have e : n = inp.length + i + 1 := by omega
        subst e
        rw [List.getD_cons_succ]
        simp only [List.getD_eq_getElem?_getD] at this ⊢
        rw [List.getElem?_append_right (by omega), show inp.length + i - inp.length = i by omega, this]
      · rw [gn_out (by simp only [List.length_append, List.length_cons, List.length_nil]; omega)] at h
        simp at h
theorem ag_at {g : Aig} (hg : Sml g) {so inp st : List Bool} (hi : (inp.length : Int) = g.ins) (hl : st.length = g.flops.length) (hs : Hs g so st) : ∀ k, k ≤ g.ands.length → Ag (kAt g so k) (Aig.vals (false :: (inp ++ st)) g.ands)
  | 0, _ => fun n v h => by
    have h0 := ag_fl hg hi hs g.flops.length (by omega)
    have hlen := kFl_len g so g.flops.length
    have hlo := hg.lo
    have hn : n < (kFl g so g.flops.length).length := by
      rcases Nat.lt_or_ge n (kFl g so g.flops.length).length with q | q
      · exact q
      · unfold kAt at h; rw [gn_out q] at h; simp at h
    rw [V_base (by simp only [List.length_cons, List.length_append]; omega)]
    exact h0 n v h
  | k + 1, hk => fun n v h => by
    have ih := ag_at hg hi hl hs k (by omega)
    have hlen := kAt_len g so k
    have hlo := hg.lo
    have hlt : k < g.ands.length := by omega
    unfold kAt at h
    rw [ands_getD hlt] at h
    by_cases h1 : n < (kAt g so k).length
    · rw [gn_app h1] at h; exact ih n v h
    · by_cases h2 : n = (kAt g so k).length
      · rw [gn_last h2] at h
        have hgv := V_gate hg.fine (s := inp ++ st) (by simp only [List.length_append, Aig.first]; omega) hlt
        have e : n = (g.first + k).toNat := by simp only [Aig.first]; omega
        rw [e, hgv]
        exact kBoth_ok (fun u hu => kOf_ok ih hu) (fun u hu => kOf_ok ih hu) h
      · rw [gn_out (by simp only [List.length_append, List.length_cons, List.length_nil]; omega)] at h
        simp at h
theorem hs_init (g : Aig) (so : List Bool) (hl : so.length = g.flops.length) : Hs g so (g.flops.map (·.init)) := fun i v h => by
  unfold stl at h
  split at h
  · rename_i hs
    have hi : i < g.flops.length := by
      rcases Nat.lt_or_ge i so.length with q | q
      · omega
      · simp [List.getD_eq_getElem?_getD, List.getElem?_eq_none q] at hs
    simp only [Option.some.injEq] at h
    rw [← h]
    simp [initAt, List.getD_eq_getElem?_getD, hi]
  · simp at h
theorem hs_next {g : Aig} (hg : Sml g) {inp st : List Bool} (hi : (inp.length : Int) = g.ins) (hl : st.length = g.flops.length) (hs : Hs g (quietG g) st) : Hs g (quietG g) (g.Eval inp st).2.1 := fun i v h => by
  have hag := ag_at hg hi hl hs g.ands.length (Nat.le_refl _)
  rw [eval_of hg hi hl]
  simp only
  have hv := h
  unfold stl at h
  split at h
  · rename_i hs
    have hi : i < g.flops.length := by
      rcases Nat.lt_or_ge i (quietG g).length with q | q
      · rw [quiet_len] at q; exact q
      · simp [List.getD_eq_getElem?_getD, List.getElem?_eq_none q] at hs
    have hq := qStep_get g (quietG g) i hi
    rw [quiet_fix, hs] at hq
    simp only [Bool.true_and] at hq
    have hk : kOf (kAt g (quietG g) g.ands.length) (nextAt g i) = some (initAt g i) := by simpa using hq.symm
    have hval := kOf_ok hag hk
    simp only [Option.some.injEq] at h
    have en : nextAt g i = g.flops[i].next := by simp [nextAt, List.getD_eq_getElem?_getD, hi]
    rw [← h, ← hval, en]
    simp [List.getD_eq_getElem?_getD, hi]
  · simp at h
theorem eval_still {g : Aig} (hg : Sml g) {inp st : List Bool} (hi : (inp.length : Int) = g.ins) (hl : st.length = g.flops.length) (hs : Hs g (quietG g) st) :
    (still g).Eval inp (kpAt (stl g (quietG g)) st g.flops.length) = ((g.Eval inp st).1, kpAt (stl g (quietG g)) (g.Eval inp st).2.1 g.flops.length, 0) :=
  eval_eq hg (hash_ended hg _) hi hl (sm_hash hg hi hl hs _ (Nat.le_refl _)) fun a ha => trivial

/-! ### Row by row -/
theorem runs_still {g : Aig} (hg : Sml g) : ∀ (ins : List (List Bool)) (st : List Bool) (out : List (List Bool)), st.length = g.flops.length → Hs g (quietG g) st → (g.runs st out ins).2 = 0 →
    (still g).runs (kpAt (stl g (quietG g)) st g.flops.length) out ins = g.runs st out ins
  | [], st, out, _, _, _ => rfl
  | inp :: ins, st, out, hl, hs, h => by
    simp only [Aig.runs] at h ⊢
    split at h
    · rename_i he; exact (he h).elim
    · rename_i he
      have he' : (g.Eval inp st).2.2 = 0 := Classical.not_not.1 he
      obtain ⟨hi, _⟩ := eval_lens he'
      rw [if_neg he, eval_still hg hi hl hs]
      simp only [ne_eq, not_true_eq_false, if_false]
      exact runs_still hg ins _ _ (by rw [eval_of hg hi hl]; simp) (hs_next hg hi hl hs) h
theorem nx_init (g : Aig) (s : Nat → Option Bool) (lits : List Int) : ∀ i, i ≤ g.flops.length → (nextsAt g s lits i).map (·.init) = kpAt s (g.flops.map (·.init)) i
  | 0, _ => rfl
  | i + 1, hi => by
    have ih := nx_init g s lits i (by omega)
    have hv : (g.flops.map (·.init)).getD i false = (g.flops.getD i ⟨0, false⟩).init := by simp [List.getD_eq_getElem?_getD, show i < g.flops.length by omega]
    unfold nextsAt kpAt
    cases s i with
    | some v => exact ih
    | none => simp only; rw [List.map_append, ih, hv]; rfl
theorem run_still {g : Aig} (hg : Sml g) {ins : List (List Bool)} (h : (g.Run ins).2 = 0) : (still g).Run ins = g.Run ins := by
  obtain ⟨_, e⟩ := run_ok h
  rw [e] at h ⊢
  unfold Aig.Run
  rw [(still_less hg).sml.chk, if_neg (by simp)]
  have hf : (still g).flops.map (·.init) = kpAt (stl g (quietG g)) (g.flops.map (·.init)) g.flops.length := nx_init g _ _ _ (Nat.le_refl _)
  rw [hf]
  exact runs_still hg ins _ _ (by simp) (hs_init g _ (quiet_len g)) h
theorem runs_same {g h : Aig} (hg : Sml g) (he : ∀ inp st, (inp.length : Int) = g.ins → st.length = g.flops.length → h.Eval inp st = g.Eval inp st) : ∀ (ins : List (List Bool)) (st : List Bool) (out : List (List Bool)), st.length = g.flops.length → (g.runs st out ins).2 = 0 → h.runs st out ins = g.runs st out ins
  | [], st, out, _, _ => rfl
  | inp :: ins, st, out, hl, hr => by
    simp only [Aig.runs] at hr ⊢
    split at hr
    · rename_i hh; exact (hh hr).elim
    · rename_i hh
      have he' : (g.Eval inp st).2.2 = 0 := Classical.not_not.1 hh
      obtain ⟨hi, _⟩ := eval_lens he'
      rw [if_neg hh, he inp st hi hl, if_neg hh]
      exact runs_same hg he ins _ _ (by rw [eval_of hg hi hl]; simp) hr
theorem run_same {g h : Aig} (hg : Sml g) (hh : Sml h) (hf : h.flops.map (·.init) = g.flops.map (·.init)) (he : ∀ inp st, (inp.length : Int) = g.ins → st.length = g.flops.length → h.Eval inp st = g.Eval inp st) {ins : List (List Bool)} (hr : (g.Run ins).2 = 0) : h.Run ins = g.Run ins := by
  obtain ⟨_, e⟩ := run_ok hr
  rw [e] at hr ⊢
  unfold Aig.Run
  rw [hh.chk, if_neg (by simp), hf]
  exact runs_same hg he ins _ _ (by simp) hr
theorem init_none (g : Aig) (b : B) : (endB g (fun _ => none) b).flops.map (·.init) = g.flops.map (·.init) := by
  have := nx_init g (fun _ => none) b.lits g.flops.length (Nat.le_refl _)
  rw [kp_all (by simp)] at this
  exact this
theorem run_sweep {g : Aig} (hg : Sml g) {ins : List (List Bool)} (h : (g.Run ins).2 = 0) : (sweep g).Run ins = g.Run ins :=
  run_same hg (sweep_less hg).sml (init_none g _) (fun _ _ hi hl => next_sweep hg hi hl) h
theorem run_hash {g : Aig} (hg : Sml g) {ins : List (List Bool)} (h : (g.Run ins).2 = 0) : (hashed g fun _ => none).Run ins = g.Run ins :=
  run_same hg (hash_less hg _).sml (init_none g _) (fun _ _ hi hl => next_hash hg hi hl) h
theorem run_bal {g : Aig} (hg : Sml g) {ins : List (List Bool)} (h : (g.Run ins).2 = 0) : (balance g).Run ins = g.Run ins :=
  run_same hg (bal_less hg).sml (init_none g _) (fun _ _ hi hl => next_bal hg hi hl) h
theorem run_best {g : Aig} (hg : Sml g) {ins : List (List Bool)} (h : (g.Run ins).2 = 0) : (best g).Run ins = g.Run ins := by
  have a1 := (hash_less hg fun _ => none).sml
  have e1 := run_hash hg h
  have a2 := (still_less a1).sml
  have e2 := run_still a1 (by rw [e1]; exact h)
  have a3 := (bal_less a2).sml
  have e3 := run_bal a2 (by rw [e2, e1]; exact h)
  have e4 := run_sweep a3 (by rw [e3, e2, e1]; exact h)
  unfold best
  rw [e4, e3, e2, e1]
end Fil.Rw

namespace Go.Proofs.Ytapnlmhfacoceaa
open Abs Fil Fil.Rw
theorem evl_len {g : Aig} (hs : Sml g) (inp st : List Bool) : (g.Eval inp st).1.length ≤ 1000000000 ∧ (g.Eval inp st).2.1.length ≤ 1000000000 := by
  have := hs.outs; have := hs.flops
  unfold Aig.Eval
  split <;> simp <;> omega
theorem rn_len {g : Aig} {ins : List (List Bool)} (hs : Sml g) (h : (g.Run ins).2 = 0) : (g.Run ins).1.length ≤ ins.length ∧ ∀ x ∈ (g.Run ins).1, x.length ≤ 1000000000 := by
  obtain ⟨_, e⟩ := run_ok h
  rw [e] at h ⊢
  obtain ⟨rows, h1, h2, _, h4⟩ := runs_spec h
  rw [h1]
  simp only [List.nil_append]
  refine ⟨by omega, fun x hx => ?_⟩
  obtain ⟨i, hi, rfl⟩ := List.getElem_of_mem hx
  have := (h4 i (by omega)).2
  rw [List.getElem?_eq_getElem hi] at this
  rw [Option.some.inj this]
  exact (evl_len hs _ _).1
theorem law_next (g h : Aig) (inp st : List Bool) (σ : Sig) (hg : Sml g) (hh : Sml h) (hi : h.ins = g.ins) (hf : h.flops.map (·.init) = g.flops.map (·.init)) (he : h.Eval inp st = g.Eval inp st) (h0 : (g.Eval inp st).2.2 = 0) :
    ACalls Try.prog 31 [encAig g, encAig h, .slice (inp.map encBool) .no, .slice (st.map encBool) .no, .slice ((g.Eval inp st).1.map encBool) .no, .slice ((g.Eval inp st).2.1.map encBool) .no] σ (fun r σ' => r = .ret (.bool true) ∧ σ' = σ) := by
  refine calls_x mixed Try.func31 b31 n31 rfl q31 (by simp) ?_; unfold c31 r31
  have ee : ((0 : Int) == 0) = true := by decide
  have c1 := fun τ => A.aig_Eval h inp st τ hh.wf
  rw [he] at c1
  obtain ⟨l1, l2⟩ := evl_len hg inp st
  have c2 := fun τ => A.ref_Init g τ (by have := hg.flops; omega)
  have c3 := fun τ => A.ref_Init h τ (by have := hh.flops; omega)
  rw [hf] at c3
  have l3 : (g.flops.map (·.init)).length ≤ 1000000000 := by have := hg.flops; simp; omega
  obtain ⟨⟨o, n, e⟩, hr⟩ : ∃ r, g.Eval inp st = r := ⟨_, rfl⟩
  rw [hr] at c1 l1 l2 h0 ⊢
  simp only at c1 l1 l2 h0 ⊢
  subst h0
  have q1 := fun τ => A.ref_Bools o o τ l1
  have q2 := fun τ => A.ref_Bools n n τ l2
  obtain ⟨iv, hiv⟩ : ∃ i, g.flops.map (·.init) = i := ⟨_, rfl⟩
  rw [hiv] at c2 c3 l3
  have q3 := fun τ => A.ref_Bools iv iv τ l3
  have hii : (g.ins == h.ins) = true := by rw [hi]; simp
  clear hg hh hi hf he hr hiv
  repeat' (first | simp (maxDischargeDepth := 9) -implicitDefEqProofs -dsimp only [go_sem, seval, decide_true, *] | ((with_reducible apply ACalls.one1); (focus ((first | with_reducible refine c1 _ | with_reducible refine c2 _ | with_reducible refine c3 _ | with_reducible refine q1 _ | with_reducible refine q2 _ | with_reducible refine q3 _) <;> (first | (simp (maxDischargeDepth := 9) -implicitDefEqProofs -dsimp only [go_sem, seval, *]; done) | omega))); (focus (first | trivial | with_reducible exact rfl | (simp (maxDischargeDepth := 9) -implicitDefEqProofs -dsimp only [go_sem, seval]; done)))) | ((with_reducible apply id_one0); (focus (intro tS hS; ((first | with_reducible refine c1 _ | with_reducible refine c2 _ | with_reducible refine c3 _ | with_reducible refine q1 _ | with_reducible refine q2 _ | with_reducible refine q3 _) <;> (first | (simp (maxDischargeDepth := 9) -implicitDefEqProofs -dsimp only [go_sem, seval, *]; done) | omega | ((with_reducible refine Sub.get hS ?_); simp (maxDischargeDepth := 9) -implicitDefEqProofs -dsimp only [go_sem, seval, *]; done))))); (focus (first | trivial | (simp (maxDischargeDepth := 9) -implicitDefEqProofs -dsimp only [go_sem, seval, *]; done)))))
  refine fin_eq ?_
  (repeat' (first | simp (maxDischargeDepth := 9) -implicitDefEqProofs -dsimp only [go_sem, seval, *])) <;> (repeat' refine And.intro ?_ ?_) <;> (first | omega | rfl | assumption | skip)
set_option maxRecDepth 20000 in
set_option maxHeartbeats 8000000 in
theorem rewrNext_ok (g : Aig) (inp st : List Bool) (σ : Sig) (hw : Wide g) : ACalls Try.prog 10 [encAig g, .slice (inp.map encBool) .no, .slice (st.map encBool) .no] σ (fun r σ' => r = .ret (.bool true) ∧ σ' = σ) := by
  refine calls_x mixed Try.func10 b10 n10 rfl q10 (by simp) ?_; unfold c10 r10
  have hf := law_few g
  have ez : ((0 : Int) != 0) = false := by decide
  have ee : ((0 : Int) == 0) = true := by decide
  cases hfw : fewR g with
  | false =>
    rw [hfw] at hf
    clear hfw hw
    repeat' (first | simp (maxDischargeDepth := 9) -implicitDefEqProofs -dsimp only [go_sem, seval, *] | ((with_reducible refine Zt (fun oF hoF hnF hnF' => ?_)); clear hnF hnF'; (try simp only [Zw, ne_eq] at hoF)) | ((with_reducible apply ACalls.one1); (focus ((first | with_reducible refine law_live _ | with_reducible refine hf _) <;> (first | (simp (maxDischargeDepth := 9) -implicitDefEqProofs -dsimp only [go_sem, seval, *]; done) | omega))); (focus (first | trivial | with_reducible exact rfl | (simp (maxDischargeDepth := 9) -implicitDefEqProofs -dsimp only [go_sem, seval]; done)))))
    refine fin_eq ?_
    (repeat' (first | simp (maxDischargeDepth := 9) -implicitDefEqProofs -dsimp only [go_sem, seval, *])) <;> (repeat' refine And.intro ?_ ?_) <;> (first | omega | rfl | assumption | skip)
  | true =>
    rw [hfw] at hf
    obtain ⟨wf, hs⟩ := few_sml hw hfw
    have cE := fun τ => A.aig_Eval g inp st τ wf
    by_cases hl : (50 : Int) < inp.length
    · clear hfw hw hs wf cE
      repeat' (first | simp (maxDischargeDepth := 9) -implicitDefEqProofs -dsimp only [go_sem, seval, gt_iff_lt, *] | ((with_reducible refine Zt (fun oF hoF hnF hnF' => ?_)); clear hnF hnF'; (try simp only [Zw, ne_eq] at hoF)) | ((with_reducible apply ACalls.one1); (focus ((first | with_reducible refine law_live _ | with_reducible refine hf _) <;> (first | (simp (maxDischargeDepth := 9) -implicitDefEqProofs -dsimp only [go_sem, seval, *]; done) | omega))); (focus (first | trivial | with_reducible exact rfl | (simp (maxDischargeDepth := 9) -implicitDefEqProofs -dsimp only [go_sem, seval]; done)))))
      refine fin_eq ?_
      (repeat' (first | simp (maxDischargeDepth := 9) -implicitDefEqProofs -dsimp only [go_sem, seval, *])) <;> (repeat' refine And.intro ?_ ?_) <;> (first | omega | rfl | assumption | skip)
    · by_cases hl2 : (50 : Int) < st.length
      · clear hfw hw hs wf cE
        repeat' (first | simp (maxDischargeDepth := 9) -implicitDefEqProofs -dsimp only [go_sem, seval, gt_iff_lt, *] | ((with_reducible refine Zt (fun oF hoF hnF hnF' => ?_)); clear hnF hnF'; (try simp only [Zw, ne_eq] at hoF)) | ((with_reducible apply ACalls.one1); (focus ((first | with_reducible refine law_live _ | with_reducible refine hf _) <;> (first | (simp (maxDischargeDepth := 9) -implicitDefEqProofs -dsimp only [go_sem, seval, *]; done) | omega))); (focus (first | trivial | with_reducible exact rfl | (simp (maxDischargeDepth := 9) -implicitDefEqProofs -dsimp only [go_sem, seval]; done)))))
        refine fin_eq ?_
        (repeat' (first | simp (maxDischargeDepth := 9) -implicitDefEqProofs -dsimp only [go_sem, seval, *])) <;> (repeat' refine And.intro ?_ ?_) <;> (first | omega | rfl | assumption | skip)
      · by_cases h0 : (g.Eval inp st).2.2 = 0
        · have hc : g.check = 0 := by
            unfold Aig.Eval at h0
            split at h0
            · rename_i hn; exact (hn h0).elim
            · rename_i hn
              have hn' : (g.Nodes inp st).2 = 0 := Classical.not_not.1 hn
              unfold Aig.Nodes at hn'
              split at hn'
              · rename_i hcc; exact (hcc hn').elim
              · rename_i hcc; exact Classical.not_not.1 hcc
          have hg := hs hc
          obtain ⟨e1, e2⟩ := eval_lens h0
          have c1 := fun τ => rw_Sweep g τ hg
          have c2 := fun τ => rw_Hash g τ hg
          have c3 := fun τ => rw_Balance g τ hg
          have n1 := fun τ => law_next g (sweep g) inp st τ hg (sweep_less hg).sml (sweep_less hg).ins (init_none g _) (next_sweep hg e1 e2) h0
          have n2 := fun τ => law_next g (hashM g) inp st τ hg (hash_less hg fun _ => none).sml (hash_less hg fun _ => none).ins (init_none g _) (next_hash hg e1 e2) h0
          have n3 := fun τ => law_next g (balance g) inp st τ hg (bal_less hg).sml (bal_less hg).ins (init_none g _) (next_bal hg e1 e2) h0
          obtain ⟨⟨o, n, e⟩, hr⟩ : ∃ r, g.Eval inp st = r := ⟨_, rfl⟩
          rw [hr] at cE n1 n2 n3 h0
          simp only at cE n1 n2 n3 h0
          subst h0
          clear hfw hw hs wf hc hg e1 e2 hr
          repeat' (first | simp (maxDischargeDepth := 9) -implicitDefEqProofs -dsimp only [go_sem, seval, gt_iff_lt, *] | ((with_reducible refine Zt (fun oF hoF hnF hnF' => ?_)); clear hnF hnF'; (try simp only [Zw, ne_eq] at hoF)) | ((with_reducible apply ACalls.one1); (focus ((first | with_reducible refine law_live _ | with_reducible refine hf _ | with_reducible refine cE _ | with_reducible refine c1 _ | with_reducible refine c2 _ | with_reducible refine c3 _ | with_reducible refine n1 _ | with_reducible refine n2 _ | with_reducible refine n3 _) <;> (first | (simp (maxDischargeDepth := 9) -implicitDefEqProofs -dsimp only [go_sem, seval, *]; done) | omega))); (focus (first | trivial | with_reducible exact rfl | (simp (maxDischargeDepth := 9) -implicitDefEqProofs -dsimp only [go_sem, seval]; done)))))
          refine fin_eq ?_
          (repeat' (first | simp (maxDischargeDepth := 9) -implicitDefEqProofs -dsimp only [go_sem, seval, *])) <;> (repeat' refine And.intro ?_ ?_) <;> (first | omega | rfl | assumption | skip)
        · have hb : ((g.Eval inp st).2.2 != 0) = true := by simpa using h0
          clear hfw hw hs wf
          repeat' (first | simp (maxDischargeDepth := 9) -implicitDefEqProofs -dsimp only [go_sem, seval, gt_iff_lt, *] | ((with_reducible refine Zt (fun oF hoF hnF hnF' => ?_)); clear hnF hnF'; (try simp only [Zw, ne_eq] at hoF)) | ((with_reducible apply ACalls.one1); (focus ((first | with_reducible refine law_live _ | with_reducible refine hf _ | with_reducible refine cE _) <;> (first | (simp (maxDischargeDepth := 9) -implicitDefEqProofs -dsimp only [go_sem, seval, *]; done) | omega))); (focus (first | trivial | with_reducible exact rfl | (simp (maxDischargeDepth := 9) -implicitDefEqProofs -dsimp only [go_sem, seval]; done)))))
          refine fin_eq ?_
          (repeat' (first | simp (maxDischargeDepth := 9) -implicitDefEqProofs -dsimp only [go_sem, seval, *])) <;> (repeat' refine And.intro ?_ ?_) <;> (first | omega | rfl | assumption | skip)
theorem law_same (h : Aig) (ins out : List (List Bool)) (σ : Sig) (hh : Sml h) (hi : ins.length ≤ 1000000) (he : h.Run ins = (out, 0)) (l1 : out.length ≤ 1000000000) (l2 : ∀ x ∈ out, x.length ≤ 1000000000) :
    ACalls Try.prog 37 [.slice (out.map (encRow encBool)) .no, encAig h, .int .i64 0, .slice (ins.map (encRow encBool)) .no] σ (fun r σ' => r = .ret (.bool true) ∧ σ' = σ) := by
  refine calls_x mixed Try.func37 b37 n37 rfl q37 (by simp) ?_; unfold c37 r37
  have ee : ((0 : Int) == 0) = true := by decide
  have c1 := fun τ => A.aig_Run h ins τ hh.wf hi
  rw [he] at c1
  have q1 := fun τ => A.ref_Rows out out τ l1 l2
  clear he hh hi l2
  repeat' (first | simp (maxDischargeDepth := 9) -implicitDefEqProofs -dsimp only [go_sem, seval, decide_true, *] | ((with_reducible apply ACalls.one1); (focus ((first | with_reducible refine c1 _ | with_reducible refine q1 _) <;> (first | (simp (maxDischargeDepth := 9) -implicitDefEqProofs -dsimp only [go_sem, seval, *]; done) | omega))); (focus (first | trivial | with_reducible exact rfl | (simp (maxDischargeDepth := 9) -implicitDefEqProofs -dsimp only [go_sem, seval]; done)))))
  refine fin_eq ?_
  (repeat' (first | simp (maxDischargeDepth := 9) -implicitDefEqProofs -dsimp only [go_sem, seval, *])) <;> (repeat' refine And.intro ?_ ?_) <;> (first | omega | rfl | assumption | skip)
set_option maxRecDepth 20000 in
set_option maxHeartbeats 8000000 in
theorem rewrSame_ok (g : Aig) (ins : List (List Bool)) (σ : Sig) (hw : Wide g) : ACalls Try.prog 12 [encAig g, .slice (ins.map (encRow encBool)) .no] σ (fun r σ' => r = .ret (.bool true) ∧ σ' = σ) := by
  refine calls_x mixed Try.func12 b12 n12 rfl q12 (by simp) ?_; unfold c12 r12
  have hf := law_few g
  have ez : ((0 : Int) != 0) = false := by decide
  have ee : ((0 : Int) == 0) = true := by decide
  cases hfw : fewR g with
  | false =>
    rw [hfw] at hf
    clear hfw hw
    repeat' (first | simp (maxDischargeDepth := 9) -implicitDefEqProofs -dsimp only [go_sem, seval, *] | ((with_reducible refine Zt (fun oF hoF hnF hnF' => ?_)); clear hnF hnF'; (try simp only [Zw, ne_eq] at hoF)) | ((with_reducible apply ACalls.one1); (focus ((first | with_reducible refine law_live _ | with_reducible refine hf _) <;> (first | (simp (maxDischargeDepth := 9) -implicitDefEqProofs -dsimp only [go_sem, seval, *]; done) | omega))); (focus (first | trivial | with_reducible exact rfl | (simp (maxDischargeDepth := 9) -implicitDefEqProofs -dsimp only [go_sem, seval]; done)))))
    refine fin_eq ?_
    (repeat' (first | simp (maxDischargeDepth := 9) -implicitDefEqProofs -dsimp only [go_sem, seval, *])) <;> (repeat' refine And.intro ?_ ?_) <;> (first | omega | rfl | assumption | skip)
  | true =>
    rw [hfw] at hf
    obtain ⟨wf, hs⟩ := few_sml hw hfw
    by_cases hl : (20 : Int) < ins.length
    · clear hfw hw hs wf
      repeat' (first | simp (maxDischargeDepth := 9) -implicitDefEqProofs -dsimp only [go_sem, seval, gt_iff_lt, *] | ((with_reducible refine Zt (fun oF hoF hnF hnF' => ?_)); clear hnF hnF'; (try simp only [Zw, ne_eq] at hoF)) | ((with_reducible apply ACalls.one1); (focus ((first | with_reducible refine law_live _ | with_reducible refine hf _) <;> (first | (simp (maxDischargeDepth := 9) -implicitDefEqProofs -dsimp only [go_sem, seval, *]; done) | omega))); (focus (first | trivial | with_reducible exact rfl | (simp (maxDischargeDepth := 9) -implicitDefEqProofs -dsimp only [go_sem, seval]; done)))))
      refine fin_eq ?_
      (repeat' (first | simp (maxDischargeDepth := 9) -implicitDefEqProofs -dsimp only [go_sem, seval, *])) <;> (repeat' refine And.intro ?_ ?_) <;> (first | omega | rfl | assumption | skip)
    · have hil : ins.length ≤ 1000000 := by omega
      have cR := fun τ => A.aig_Run g ins τ wf hil
      by_cases h0 : (g.Run ins).2 = 0
      · have hg := hs (run_ok h0).1
        have c1 := fun τ => rw_Sweep g τ hg
        have c2 := fun τ => rw_Hash g τ hg
        have c3 := fun τ => rw_Balance g τ hg
        have c4 := fun τ => rw_Still g τ hg
        have c5 := fun τ => rw_Best g τ hg
        have r1 := run_sweep hg h0
        have r2 : (hashM g).Run ins = g.Run ins := run_hash hg h0
        have r3 := run_bal hg h0
        have r4 := run_still hg h0
        have r5 := run_best hg h0
        obtain ⟨l1, l2⟩ := rn_len hg h0
        obtain ⟨⟨out, e⟩, hr⟩ : ∃ r, g.Run ins = r := ⟨_, rfl⟩
        rw [hr] at cR l1 l2 h0 r1 r2 r3 r4 r5
        simp only at cR l1 l2 h0
        subst h0
        have l3 : out.length ≤ 1000000000 := by omega
        have n1 := fun τ => law_same (sweep g) ins out τ (sweep_less hg).sml hil r1 l3 l2
        have n2 := fun τ => law_same (hashM g) ins out τ (hash_less hg fun _ => none).sml hil r2 l3 l2
        have n3 := fun τ => law_same (balance g) ins out τ (bal_less hg).sml hil r3 l3 l2
        have n4 := fun τ => law_same (still g) ins out τ (still_less hg).sml hil r4 l3 l2
        have n5 := fun τ => law_same (best g) ins out τ (best_less hg).sml hil r5 l3 l2
        clear hfw hw hs wf hg hr r1 r2 r3 r4 r5 l1 l2 l3
        repeat' (first | simp (maxDischargeDepth := 9) -implicitDefEqProofs -dsimp only [go_sem, seval, gt_iff_lt, *] | ((with_reducible refine Zt (fun oF hoF hnF hnF' => ?_)); clear hnF hnF'; (try simp only [Zw, ne_eq] at hoF)) | ((with_reducible apply ACalls.one1); (focus ((first | with_reducible refine law_live _ | with_reducible refine hf _ | with_reducible refine cR _ | with_reducible refine c1 _ | with_reducible refine c2 _ | with_reducible refine c3 _ | with_reducible refine c4 _ | with_reducible refine c5 _ | with_reducible refine n1 _ | with_reducible refine n2 _ | with_reducible refine n3 _ | with_reducible refine n4 _ | with_reducible refine n5 _) <;> (first | (simp (maxDischargeDepth := 9) -implicitDefEqProofs -dsimp only [go_sem, seval, *]; done) | omega))); (focus (first | trivial | with_reducible exact rfl | (simp (maxDischargeDepth := 9) -implicitDefEqProofs -dsimp only [go_sem, seval]; done)))))
        refine fin_eq ?_
        (repeat' (first | simp (maxDischargeDepth := 9) -implicitDefEqProofs -dsimp only [go_sem, seval, *])) <;> (repeat' refine And.intro ?_ ?_) <;> (first | omega | rfl | assumption | skip)
      · have hb : ((g.Run ins).2 != 0) = true := by simpa using h0
        clear hfw hw hs wf
        repeat' (first | simp (maxDischargeDepth := 9) -implicitDefEqProofs -dsimp only [go_sem, seval, gt_iff_lt, *] | ((with_reducible refine Zt (fun oF hoF hnF hnF' => ?_)); clear hnF hnF'; (try simp only [Zw, ne_eq] at hoF)) | ((with_reducible apply ACalls.one1); (focus ((first | with_reducible refine law_live _ | with_reducible refine hf _ | with_reducible refine cR _) <;> (first | (simp (maxDischargeDepth := 9) -implicitDefEqProofs -dsimp only [go_sem, seval, *]; done) | omega))); (focus (first | trivial | with_reducible exact rfl | (simp (maxDischargeDepth := 9) -implicitDefEqProofs -dsimp only [go_sem, seval]; done)))))
        refine fin_eq ?_
        (repeat' (first | simp (maxDischargeDepth := 9) -implicitDefEqProofs -dsimp only [go_sem, seval, *])) <;> (repeat' refine And.intro ?_ ?_) <;> (first | omega | rfl | assumption | skip)
end Go.Proofs.Ytapnlmhfacoceaa

