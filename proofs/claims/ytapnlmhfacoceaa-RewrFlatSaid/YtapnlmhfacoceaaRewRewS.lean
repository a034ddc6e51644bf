/- rewr: contracts of the document's answer: least, joined. -/
import Derived.Test.YtapnlmhfacoceaaRwSem2
set_option linter.unusedSimpArgs false
set_option linter.unusedVariables false
namespace Fil.Rw
open Abs
open Eqv (moveL)

/-! ### Inner ones -/
def cntE (l : List Int) (n : Int) : Nat := (l.filter fun a => decide (a / 2 = n) && decide (a % 2 = 0)).length
theorem cntE_snoc (l : List Int) (a n : Int) : cntE (l ++ [a]) n = cntE l n + if a / 2 = n ∧ a % 2 = 0 then 1 else 0 := by
  simp only [cntE, List.filter_append, List.length_append]
  congr 1
  by_cases h : a / 2 = n <;> by_cases h2 : a % 2 = 0 <;> simp [h, h2]
theorem cntE_le (l : List Int) (n : Int) : cntE l n ≤ cntL l n := by
  induction l using snoc_ind with
  | h0 => simp [cntE, cntL]
  | h1 l a ih =>
    rw [cntE_snoc, cntL_snoc]
    by_cases h : a / 2 = n
    · rw [if_pos h]; split <;> omega
    · rw [if_neg h, if_neg (fun e => h e.1)]; omega
theorem cntE_pos {l : List Int} {a n : Int} (h : a ∈ l) (e : a / 2 = n) (h2 : a % 2 = 0) : 1 ≤ cntE l n := by
  unfold cntE
  exact List.length_pos_of_mem (List.mem_filter.2 ⟨h, by simp [e, h2]⟩)
theorem cntE_mem {l : List Int} {n : Int} (h : 1 ≤ cntE l n) : ∃ a ∈ l, a / 2 = n ∧ a % 2 = 0 := by
  unfold cntE at h
  obtain ⟨a, ha⟩ := List.exists_mem_of_length_pos h
  obtain ⟨h1, h2⟩ := List.mem_filter.1 ha
  simp only [Bool.and_eq_true, decide_eq_true_eq] at h2
  exact ⟨a, h1, h2⟩
theorem cntL_mem {l : List Int} {n : Int} (h : 1 ≤ cntL l n) : ∃ a ∈ l, a / 2 = n := by
  unfold cntL at h
  obtain ⟨a, ha⟩ := List.exists_mem_of_length_pos h
  obtain ⟨h1, h2⟩ := List.mem_filter.1 ha
  exact ⟨a, h1, by simpa using h2⟩
theorem inn_eq {g : Aig} {n : Int} (hn : g.first ≤ n) : innM g n = (decide (cntL (opsG g) n + cntL (rts g) n = 1) && decide (cntE (opsG g) n = 1)) := by
  rw [Bool.eq_iff_iff]
  unfold innM
  simp only [Bool.and_eq_true, decide_eq_true_eq]
  have hle := cntE_le (opsG g) n
  constructor
  · rintro ⟨⟨_, h1⟩, h2⟩
    have hc : cntL (opsG g) n = 1 := by omega
    obtain ⟨a, ha, e⟩ := cntL_mem (l := opsG g) (n := n) (by omega)
    have := last_one e (opsG g) hc ha
    rw [h2] at this
    have hev : a % 2 = 0 := by simpa using this.symm
    have := cntE_pos ha e hev
    omega
  · rintro ⟨h1, h2⟩
    obtain ⟨a, ha, e, hev⟩ := cntE_mem (l := opsG g) (n := n) (by omega)
    have hc : cntL (opsG g) n = 1 := by omega
    have := last_one e (opsG g) hc ha
    exact ⟨⟨hn, by omega⟩, by rw [this]; simpa using hev⟩
def cRow (l : List Int) (N : Nat) : List Int := (List.range N).map fun n : Nat => (cntL l n : Int)
def eRow (l : List Int) (N : Nat) : List Int := (List.range N).map fun n : Nat => (cntE l n : Int)
def iRow (g : Aig) (N i : Nat) : List Bool := (List.range N).map fun n : Nat => decide (n < i) && innM g n
theorem cRow_len (l : List Int) (N : Nat) : (cRow l N).length = N := by simp [cRow]
theorem eRow_len (l : List Int) (N : Nat) : (eRow l N).length = N := by simp [eRow]
theorem iRow_len (g : Aig) (N i : Nat) : (iRow g N i).length = N := by simp [iRow]
theorem cRow_get {l : List Int} {N n : Nat} (h : n < N) : (cRow l N).getD n 0 = cntL l n := by simp [cRow, List.getD_eq_getElem?_getD, h]
theorem eRow_get {l : List Int} {N n : Nat} (h : n < N) : (eRow l N).getD n 0 = cntE l n := by simp [eRow, List.getD_eq_getElem?_getD, h]
theorem row_ext {a b : List Int} (hl : a.length = b.length) (h : ∀ i, i < a.length → a.getD i 0 = b.getD i 0) : a = b := by
  apply List.ext_getElem hl
  intro i h1 h2
  have := h i h1
  simp only [List.getD_eq_getElem?_getD, List.getElem?_eq_getElem h1, List.getElem?_eq_getElem h2, Option.getD_some] at this
  exact this
theorem seti_getD (l : List Int) (i j : Nat) (v : Int) (h : i < l.length) : (l.set i v).getD j 0 = if i = j then v else l.getD j 0 := by
  simp only [List.getD_eq_getElem?_getD, List.getElem?_set]
  by_cases e : i = j
  · subst e; simp [h]
  · simp [e]
theorem cRow_snoc {l : List Int} {N : Nat} {a : Int} (h0 : 0 ≤ a) (h : (a / 2).toNat < N) : (cRow l N).set (a / 2).toNat ((cRow l N).getD (a / 2).toNat 0 + 1) = cRow (l ++ [a]) N := by
  refine row_ext (by simp [cRow_len]) fun i hi => ?_
  rw [List.length_set, cRow_len] at hi
  rw [seti_getD _ _ _ _ (by rw [cRow_len]; exact h), cRow_get h, cRow_get hi, cRow_get hi, cntL_snoc]
  by_cases e : (a / 2).toNat = i
  · have e2 : a / 2 = (i : Int) := by omega
    have e3 : (((a / 2).toNat : Nat) : Int) = i := by omega
    rw [if_pos e, if_pos e2, e3]; omega
  · have e2 : ¬ a / 2 = (i : Int) := by omega
    rw [if_neg e, if_neg e2]; omega
theorem eRow_even {l : List Int} {N : Nat} {a : Int} (h0 : 0 ≤ a) (h : (a / 2).toNat < N) (he : a % 2 = 0) : (eRow l N).set (a / 2).toNat ((eRow l N).getD (a / 2).toNat 0 + 1) = eRow (l ++ [a]) N := by
  refine row_ext (by simp [eRow_len]) fun i hi => ?_
  rw [List.length_set, eRow_len] at hi
  rw [seti_getD _ _ _ _ (by rw [eRow_len]; exact h), eRow_get h, eRow_get hi, eRow_get hi, cntE_snoc]
  by_cases e : (a / 2).toNat = i
  · have e2 : a / 2 = (i : Int) := by omega
    have e3 : (((a / 2).toNat : Nat) : Int) = i := by omega
    rw [if_pos e, if_pos ⟨e2, he⟩, e3]; omega
  · have e2 : ¬ a / 2 = (i : Int) := by omega
    rw [if_neg e, if_neg (fun q => e2 q.1)]; omega
theorem eRow_odd {l : List Int} {N : Nat} {a : Int} (he : ¬ a % 2 = 0) : eRow l N = eRow (l ++ [a]) N := by
  unfold eRow
  refine List.map_congr_left fun n _ => ?_
  rw [cntE_snoc, if_neg (fun q => he q.2)]; rfl
theorem cRow_nil (N : Nat) : cRow [] N = List.replicate N 0 := by
  refine row_ext (by simp [cRow_len]) fun i hi => ?_
  rw [cRow_len] at hi
  rw [cRow_get hi]; simp [cntL, List.getD_eq_getElem?_getD, hi]
theorem eRow_nil (N : Nat) : eRow [] N = List.replicate N 0 := by
  refine row_ext (by simp [eRow_len]) fun i hi => ?_
  rw [eRow_len] at hi
  rw [eRow_get hi]; simp [cntE, List.getD_eq_getElem?_getD, hi]
theorem iRow_first (g : Aig) (N : Nat) (hf : 0 ≤ g.first) : iRow g N g.first.toNat = List.replicate N false := by
  apply List.ext_getElem (by simp [iRow])
  intro i h1 h2
  simp only [iRow, List.getElem_map, List.getElem_range, List.getElem_replicate]
  by_cases h : i < g.first.toNat
  · have : innM g i = false := by
      cases hi : innM g i with
      | false => rfl
      | true => have := innM_first hi; omega
    simp [this]
  · simp [h]
theorem iRow_set (g : Aig) {N i : Nat} (h : i < N) : (iRow g N i).set i (innM g i) = iRow g N (i + 1) := by
  apply List.ext_getElem (by simp [iRow])
  intro j h1 h2
  simp only [iRow, List.getElem_set, List.getElem_map, List.getElem_range]
  by_cases e : i = j
  · subst e; simp
  · rw [if_neg e]
    have : decide (j < i + 1) = decide (j < i) := by
      rw [decide_eq_decide]; omega
    rw [this]

/-! ### The two that are joined -/
def lsAt (lev l : List Int) (but : Int) : Nat → Int
  | 0 => -1
  | i + 1 => if (i : Int) ≠ but ∧ (lsAt lev l but i < 0 ∨ lev.getD (l.getD i 0 / 2).toNat 0 < lev.getD (l.getD (lsAt lev l but i).toNat 0 / 2).toNat 0) then i else lsAt lev l but i
theorem lsAt_bound (lev l : List Int) (but : Int) : ∀ i, -1 ≤ lsAt lev l but i ∧ lsAt lev l but i < i
  | 0 => by simp [lsAt]
  | i + 1 => by
    have := lsAt_bound lev l but i
    unfold lsAt
    split <;> omega
theorem ls_all (lev l : List Int) {but : Int} (hb : but < 0) : ∀ i, lsAt lev l but i = if i = 0 then -1 else (lstAt lev l i : Int)
  | 0 => rfl
  | i + 1 => by
    have ih := ls_all lev l hb i
    unfold lsAt lstAt
    rw [if_neg (show ¬ i + 1 = 0 by omega), ih]
    by_cases hi : i = 0
    · subst hi
      simp only [if_true]
      rw [if_pos ⟨by omega, .inl (by omega)⟩]
      have : lstAt lev l 0 = 0 := rfl
      rw [this]; simp
    · rw [if_neg hi]
      simp only [Int.toNat_natCast]
      by_cases hc : lev.getD (l.getD i 0 / 2).toNat 0 < lev.getD (l.getD (lstAt lev l i) 0 / 2).toNat 0
      · rw [if_pos ⟨by omega, .inr hc⟩, if_pos hc]
      · rw [if_neg, if_neg hc]
        rintro ⟨_, h | h⟩
        · omega
        · exact hc h
def upI (p k : Nat) : Nat := if k < p then k else k + 1
theorem up_get (l : List Int) (p k : Nat) : (l.eraseIdx p).getD k 0 = l.getD (upI p k) 0 := by
  unfold upI
  simp only [List.getD_eq_getElem?_getD, List.getElem?_eraseIdx]
  split <;> rfl
theorem ls_but (lev l : List Int) (p : Nat) : ∀ i, lsAt lev l p i = if (if i ≤ p then i else i - 1) = 0 then -1 else (upI p (lstAt lev (l.eraseIdx p) (if i ≤ p then i else i - 1)) : Int)
  | 0 => by simp [lsAt]
  | i + 1 => by
    have ih := ls_but lev l p i
    unfold lsAt
    by_cases hip : i = p
    · subst hip
      rw [if_neg (by simp), ih]
      have e1 : (if i ≤ i then i else i - 1) = i := if_pos (Nat.le_refl _)
      have e2 : (if i + 1 ≤ i then i + 1 else i + 1 - 1) = i := by rw [if_neg (by omega)]; rfl
      rw [e1, e2]
    · obtain ⟨c, hc⟩ : ∃ c, (if i ≤ p then i else i - 1) = c := ⟨_, rfl⟩
      have hc2 : (if i + 1 ≤ p then i + 1 else i + 1 - 1) = c + 1 := by
        rw [← hc]
        by_cases h : i + 1 ≤ p
        · rw [if_pos h, if_pos (by omega)]
        · rw [if_neg h, if_neg (by omega)]; omega
      have hui : upI p c = i := by
        unfold upI
        rw [← hc]
        by_cases h : i ≤ p
        · rw [if_pos h, if_pos (by omega)]
        · rw [if_neg h, if_neg (by omega)]; omega
      rw [hc2, if_neg (show ¬ c + 1 = 0 by omega)]
      rw [hc] at ih
      conv => rhs; unfold lstAt
      rw [up_get l p c, hui]
      by_cases hz : c = 0
      · rw [if_pos hz] at ih
        rw [ih, if_pos ⟨by omega, .inl (by omega)⟩]
        subst hz
        have e0 : lstAt lev (l.eraseIdx p) 0 = 0 := rfl
        rw [e0, up_get l p 0, hui]
        simp [hui]
      · rw [if_neg hz] at ih
        rw [ih, up_get]
        simp only [Int.toNat_natCast]
        by_cases hlt : lev.getD (l.getD i 0 / 2).toNat 0 < lev.getD (l.getD (upI p (lstAt lev (l.eraseIdx p) c)) 0 / 2).toNat 0
        · rw [if_pos ⟨by omega, .inr hlt⟩, if_pos hlt, hui]
        · rw [if_neg, if_neg hlt]
          rintro ⟨_, h | h⟩
          · omega
          · exact hlt h
theorem ls_one {lev l : List Int} (h : 0 < l.length) : lsAt lev l (-1) l.length = (lst lev l : Int) := by
  rw [ls_all lev l (by omega), if_neg (by omega)]; rfl
theorem ls_two {lev l : List Int} {p : Nat} (h : 2 ≤ l.length) (hp : p < l.length) : lsAt lev l p l.length = (upI p (lst lev (l.eraseIdx p)) : Int) := by
  rw [ls_but, if_neg (show ¬ l.length ≤ p by omega), if_neg (by omega)]
  unfold lst
  rw [erase_len hp]
theorem pair_ref {lev l : List Int} (h : 2 ≤ l.length) {i k : Nat} (hi : lst lev l = i) (hk : upI i (lst lev (l.eraseIdx i)) = k) :
    i ≠ k ∧ max i k < l.length ∧ pairJ lev l = (l.getD (min i k) 0, l.getD (max i k) 0) ∧ restJ lev l = l.take (min i k) ++ (l.take (max i k)).drop (min i k + 1) ++ l.drop (max i k + 1) := by
  have q1 := lst_lt (lev := lev) (show 0 < l.length by omega)
  rw [hi] at q1
  have q2 := erase_len q1
  have q3 := lst_lt (lev := lev) (show 0 < (l.eraseIdx i).length by omega)
  unfold pairJ restJ
  simp only [hi]
  obtain ⟨j, hj⟩ : ∃ j, lst lev (l.eraseIdx i) = j := ⟨_, rfl⟩
  rw [hj] at hk q3 ⊢
  rw [up_get, hk]
  unfold upI at hk
  by_cases hji : j < i
  · rw [if_pos hji] at hk
    subst hk
    have e1 : min i j = j := by omega
    have e2 : max i j = i := by omega
    rw [if_pos hji, e1, e2]
    refine ⟨by omega, by omega, rfl, ?_⟩
    rw [List.eraseIdx_eq_take_drop_succ, List.eraseIdx_eq_take_drop_succ, List.take_append_of_le_length (by rw [List.length_take]; omega), List.take_take, show min j i = j by omega, List.drop_append, List.append_assoc]
    congr 1
    rw [List.length_take, show j + 1 - min i l.length = 0 by omega, List.drop_zero]
  · rw [if_neg hji] at hk
    subst hk
    have e1 : min i (j + 1) = i := by omega
    have e2 : max i (j + 1) = j + 1 := by omega
    rw [if_neg hji, e1, e2]
    refine ⟨by omega, by omega, rfl, ?_⟩
    rw [List.eraseIdx_eq_take_drop_succ, List.eraseIdx_eq_take_drop_succ]
    rw [List.take_append, List.take_take, List.length_take, List.drop_append, List.length_take]
    have m1 : min j i = i := by omega
    have m2 : min i l.length = i := by omega
    rw [m1, m2]
    have d1 : List.drop (j + 1) (List.take i l) = [] := List.drop_eq_nil_of_le (by rw [List.length_take]; omega)
    rw [d1, List.nil_append, List.drop_drop, List.drop_take]
    have a1 : i + 1 + (j + 1 - i) = j + 1 + 1 := by omega
    have a2 : j + 1 - (i + 1) = j - i := by omega
    rw [a1, a2]
end Fil.Rw

namespace Go.Proofs.Ytapnlmhfacoceaa
open Abs Fil Fil.Rw
open Eqv (moveL)
theorem put_int (l : List Int) (i : Nat) (v : Int) (h : i < l.length) : List.take (i * 1) (l.map encInt) ++ [AV.int .i64 v] ++ List.drop (i * 1 + 1) (l.map encInt) = (l.set i v).map encInt := by
  have h1 : (l.set i v).map encInt = (l.map encInt).set i (encInt v) := by rw [List.map_set]
  rw [h1, List.set_eq_take_append_cons_drop]
  simp [h]
theorem head_int {l : List Int} {i : Nat} (h : i < l.length) : (List.take 1 (List.drop (i * 1) (l.map encInt))).head? = some (.int .i64 (l.getD i 0)) := by
  rw [Nat.mul_one, List.drop_eq_getElem_cons (by simpa using h)]
  simp [List.getD_eq_getElem?_getD, h]
theorem rep_int (n : Nat) : (List.replicate n [AV.int .i64 0]).flatten = (List.replicate n (0 : Int)).map encInt := by
  induction n with
  | zero => rfl
  | succ n ih => simp only [List.replicate_succ, List.flatten_cons, ih, List.map_cons]; rfl
theorem cstep {l : List Int} {N : Nat} {a : Int} (h0 : 0 ≤ a) (h : a < 2 * N) (hl : l.length ≤ 100000) :
    (a / 2).toNat < N ∧ (List.take 1 (List.drop ((a / 2).toNat * 1) ((cRow l N).map encInt))).head? = some (.int .i64 ((cRow l N).getD (a / 2).toNat 0)) ∧
    List.take ((a / 2).toNat * 1) ((cRow l N).map encInt) ++ [AV.int .i64 ((cRow l N).getD (a / 2).toNat 0 + 1)] ++ List.drop ((a / 2).toNat * 1 + 1) ((cRow l N).map encInt) = (cRow (l ++ [a]) N).map encInt ∧
    0 ≤ (cRow l N).getD (a / 2).toNat 0 ∧ (cRow l N).getD (a / 2).toNat 0 ≤ 100000 := by
  have hN : (a / 2).toNat < N := by omega
  have hlen := cRow_len l N
  refine ⟨hN, head_int (by omega), ?_, ?_, ?_⟩
  · rw [put_int _ _ _ (by omega), cRow_snoc h0 hN]
  · rw [cRow_get hN]; omega
  · rw [cRow_get hN]
    have := cntL_le l ((a / 2).toNat : Nat)
    omega
theorem estep {l : List Int} {N : Nat} {a : Int} (h0 : 0 ≤ a) (h : a < 2 * N) (hl : l.length ≤ 100000) (he : a % 2 = 0) :
    (List.take 1 (List.drop ((a / 2).toNat * 1) ((eRow l N).map encInt))).head? = some (.int .i64 ((eRow l N).getD (a / 2).toNat 0)) ∧
    List.take ((a / 2).toNat * 1) ((eRow l N).map encInt) ++ [AV.int .i64 ((eRow l N).getD (a / 2).toNat 0 + 1)] ++ List.drop ((a / 2).toNat * 1 + 1) ((eRow l N).map encInt) = (eRow (l ++ [a]) N).map encInt ∧
    0 ≤ (eRow l N).getD (a / 2).toNat 0 ∧ (eRow l N).getD (a / 2).toNat 0 ≤ 100000 := by
  have hN : (a / 2).toNat < N := by omega
  have hlen := eRow_len l N
  refine ⟨head_int (by omega), ?_, ?_, ?_⟩
  · rw [put_int _ _ _ (by omega), eRow_even h0 hN he]
  · rw [eRow_get hN]; omega
  · rw [eRow_get hN]
    have := cntL_le l ((a / 2).toNat : Nat)
    have := cntE_le l ((a / 2).toNat : Nat)
    omega
set_option maxRecDepth 20000 in
set_option maxHeartbeats 8000000 in
theorem rf_inner (g : Aig) (N : Nat) (σ : Sig) (hg : Sml g) (hN : 1 + g.count = (N : Int)) : ACalls Try.prog 53 [encAig g] σ (fun r σ' => r = .ret (.slice ((iRow g N N).map encBool) .no) ∧ σ' = σ) := by
  refine calls_x mixed Try.func53 b53 n53 rfl q53 (by simp) ?_; unfold c53 r53
  have hlo := hg.lo
  have h1 := hg.ins
  have h2 := hg.flops
  have h3 := hg.ands
  have h4 := hg.outs
  have hsm : Small g := check_small hg.wf hg.chk
  have hfc := fun τ => rf_first g τ hsm
  have hc := fun τ => A.ref_Count g τ hsm
  have hcnt : g.count = g.ins + g.flops.length + g.ands.length := rfl
  have hfst : g.first = 1 + g.ins + g.flops.length := rfl
  have hN1 : N ≤ 400 := by omega
  have hrl := fun a (ha : a ∈ rts g) => root_lit hg ha
  rw [hN] at hc
  repeat' (first | simp (maxDischargeDepth := 9) -implicitDefEqProofs -dsimp only [go_sem, seval, *] | simp (disch := omega) only [wrap64, tdiv2, tmod2] | ((with_reducible refine Zv ?_ ?_); focus (first | omega | exact rfl)) | ((with_reducible refine Zu ?_ ?_); focus omega) | ((with_reducible refine Zt (fun oF hoF hnF hnF' => ?_)); (try simp only [upd_none, ne_eq, not_and] at hoF)) | ((with_reducible apply ACalls.one1); (focus ((first | with_reducible refine hc _) <;> (first | (simp (maxDischargeDepth := 9) -implicitDefEqProofs -dsimp only [go_sem, seval, *]; done) | omega))); (focus (first | trivial | with_reducible exact rfl | (simp (maxDischargeDepth := 9) -implicitDefEqProofs -dsimp only [go_sem, seval]; done)))))
  rename_i o1 p1 n1 n1'
  obtain ⟨o2, e2⟩ : ∃ x, x = oF := ⟨oF, rfl⟩
  subst e2
  obtain ⟨p2, p3⟩ := hoF
  have p4 : ¬ o1 = o2 := fun e => p2 e.symm
  clear n1 n1' hnF hnF'
  have hr1 : (List.replicate N [AV.int .i64 0]).flatten = (cRow [] N).map encInt := by rw [rep_int, cRow_nil]
  have hr2 : (List.replicate N [AV.int .i64 0]).flatten = (eRow [] N).map encInt := by rw [rep_int, eRow_nil]
  refine loop_rule (fun i : Nat => [(5, some (.int .i64 i)), (1, some (.cptr (aigL g))), (3, some (.vec o1 N)), (4, some (.vec o2 N))])
    (fun i => upd (upd σ o1 (.vec 1 N ((cRow ((opsG g).take (2 * i)) N).map encInt))) o2 (.vec 1 N ((eRow ((opsG g).take (2 * i)) N).map encInt))) (fun i => i ≤ g.ands.length) (fun i => g.ands.length - i) 0 ?_ ?_
  · have e1 : (cRow ((opsG g).take (2 * 0)) N).map encInt = (List.replicate N [AV.int .i64 0]).flatten := hr1.symm
    have e2 : (eRow ((opsG g).take (2 * 0)) N).map encInt = (List.replicate N [AV.int .i64 0]).flatten := hr2.symm
    clear hr1 hr2
    rw [e1, e2]
    (repeat' (first | simp (maxDischargeDepth := 9) -implicitDefEqProofs -dsimp only [go_sem, seval, Int.natCast_zero, *] | simp (disch := omega) only [wrap64, tdiv2, tmod2])) <;> (repeat' refine And.intro ?_ ?_) <;> (first | omega | rfl | assumption | skip)
  · intro i hi
    clear hr1 hr2
    by_cases hlt : i < g.ands.length
    · have hlt' : (i : Int) < g.ands.length := by omega
      clear hc
      repeat' (first | simp (maxDischargeDepth := 9) -implicitDefEqProofs -dsimp only [go_sem, seval, *] | simp (disch := omega) only [wrap64, tdiv2, tmod2] | ((with_reducible refine Zv ?_ ?_); focus (first | omega | exact rfl)) | ((with_reducible refine Zu ?_ ?_); focus omega) | ((with_reducible refine Zt (fun oF hoF hnF hnF' => ?_)); (try simp only [upd_none, ne_eq, not_and] at hoF)))
      refine loop_rule (fun k : Nat => [(6, some (.int .i64 k)), (1, some (.cptr (aigL g))), (5, some (.int .i64 i)), (3, some (.vec o1 N)), (4, some (.vec o2 N))])
        (fun k => upd (upd σ o1 (.vec 1 N ((cRow ((opsG g).take (2 * i + k)) N).map encInt))) o2 (.vec 1 N ((eRow ((opsG g).take (2 * i + k)) N).map encInt))) (fun k => k ≤ 2) (fun k => 2 - k) 0 ?_ ?_
      · (repeat' (first | simp (maxDischargeDepth := 9) -implicitDefEqProofs -dsimp only [go_sem, seval, Int.natCast_zero, Nat.add_zero, *] | simp (disch := omega) only [wrap64, tdiv2, tmod2])) <;> (repeat' refine And.intro ?_ ?_) <;> (first | omega | rfl | assumption | skip)
      · intro k hk
        obtain ⟨t1, t2⟩ := ops_take g hlt
        obtain ⟨⟨q1, q2⟩, q3, q4⟩ := gate_bounds hg hlt
        have hol := opsG_len g
        have hl1 : ((opsG g).take (2 * i)).length ≤ 100000 := by rw [List.length_take]; omega
        have hl2 : ((opsG g).take (2 * i + 1)).length ≤ 100000 := by rw [List.length_take]; omega
        have w1 : g.ands[i].1 < 2 * N := by omega
        have w2 : g.ands[i].2 < 2 * N := by omega
        obtain ⟨x0, hx0⟩ : ∃ x, g.ands[i].1 = x := ⟨_, rfl⟩
        obtain ⟨x1, hx1⟩ : ∃ x, g.ands[i].2 = x := ⟨_, rfl⟩
        rw [hx0] at q1 w1 t1
        rw [hx1] at q3 w2 t2
        rcases (show k = 0 ∨ k = 1 ∨ k = 2 by omega) with rfl | rfl | rfl
        · obtain ⟨s1, s2, s3, s4, s5⟩ := cstep q1 w1 hl1
          rw [← t1] at s3
          have e0 : 2 * i + 0 = 2 * i := rfl
          rw [e0]
          have s6 : x0 / 2 < N := by omega
          have s7 : x0 ≤ 1000000 := by omega
          by_cases he : x0 % 2 = 0
          · obtain ⟨u1, u2, u3, u4⟩ := estep q1 w1 hl1 he
            rw [← t1] at u2
            have hb : (x0 % 2 == 0) = true := by simp [he]
            obtain ⟨c, hcc⟩ : ∃ c, cRow ((opsG g).take (2 * i)) N = c := ⟨_, rfl⟩
            obtain ⟨e, hee⟩ : ∃ c, eRow ((opsG g).take (2 * i)) N = c := ⟨_, rfl⟩
            have hcl : c.length = N := by rw [← hcc]; exact cRow_len _ _
            have hel : e.length = N := by rw [← hee]; exact eRow_len _ _
            rw [hcc] at s2 s3 s4 s5 ⊢
            rw [hee] at u1 u2 u3 u4 ⊢
            clear hcc hee he t1 t2 hrl hfc hol hl1 hl2 q2 q4 hN hcnt hfst hsm
            repeat' (first | simp (maxDischargeDepth := 9) -implicitDefEqProofs -dsimp only [go_sem, seval, Int.natCast_zero, *] | simp (disch := omega) only [wrap64, tdiv2, tmod2] | ((with_reducible refine Zv ?_ ?_); focus (first | omega | exact rfl)) | ((with_reducible refine Zu ?_ ?_); focus omega) | ((with_reducible refine Zt (fun oF hoF hnF hnF' => ?_)); (try simp only [upd_none, ne_eq, not_and] at hoF)))
            refine loop_next _ _ _ _ (1) ?_; (repeat' (first | simp (maxDischargeDepth := 9) -implicitDefEqProofs -dsimp only [go_sem, seval,  Int.natCast_one, Int.zero_add, *] | simp (disch := omega) only [wrap64, tdiv2, tmod2])) <;> (repeat' refine And.intro ?_ ?_) <;> (first | omega | rfl | assumption | skip)
          · have ho := eRow_odd (l := (opsG g).take (2 * i)) (N := N) he
            rw [← t1] at ho
            have hb : (x0 % 2 == 0) = false := by simp [he]
            obtain ⟨c, hcc⟩ : ∃ c, cRow ((opsG g).take (2 * i)) N = c := ⟨_, rfl⟩
            obtain ⟨e, hee⟩ : ∃ c, eRow ((opsG g).take (2 * i)) N = c := ⟨_, rfl⟩
            have hcl : c.length = N := by rw [← hcc]; exact cRow_len _ _
            rw [hcc] at s2 s3 s4 s5 ⊢
            rw [hee] at ho ⊢
            have ho' := ho.symm
            clear hcc hee he t1 t2 hrl hfc hol hl1 hl2 q2 q4 hN hcnt hfst ho hsm
            repeat' (first | simp (maxDischargeDepth := 9) -implicitDefEqProofs -dsimp only [go_sem, seval, Int.natCast_zero, *] | simp (disch := omega) only [wrap64, tdiv2, tmod2] | ((with_reducible refine Zv ?_ ?_); focus (first | omega | exact rfl)) | ((with_reducible refine Zu ?_ ?_); focus omega) | ((with_reducible refine Zt (fun oF hoF hnF hnF' => ?_)); (try simp only [upd_none, ne_eq, not_and] at hoF)))
            refine loop_next _ _ _ _ (1) ?_; (repeat' (first | simp (maxDischargeDepth := 9) -implicitDefEqProofs -dsimp only [go_sem, seval,  Int.natCast_one, Int.zero_add, *] | simp (disch := omega) only [wrap64, tdiv2, tmod2])) <;> (repeat' refine And.intro ?_ ?_) <;> (first | omega | rfl | assumption | skip)
        · obtain ⟨s1, s2, s3, s4, s5⟩ := cstep q3 w2 hl2
          rw [← t2] at s3
          have e0 : 2 * i + (1 + 1) = 2 * i + 2 := rfl
          have en : ((1 : Nat) : Int) = 1 := rfl
          have en2 : ((2 : Nat) : Int) = 2 := rfl
          have s6 : x1 / 2 < N := by omega
          have s7 : x1 ≤ 1000000 := by omega
          by_cases he : x1 % 2 = 0
          · obtain ⟨u1, u2, u3, u4⟩ := estep q3 w2 hl2 he
            rw [← t2] at u2
            have hb : (x1 % 2 == 0) = true := by simp [he]
            obtain ⟨c, hcc⟩ : ∃ c, cRow ((opsG g).take (2 * i + 1)) N = c := ⟨_, rfl⟩
            obtain ⟨e, hee⟩ : ∃ c, eRow ((opsG g).take (2 * i + 1)) N = c := ⟨_, rfl⟩
            have hcl : c.length = N := by rw [← hcc]; exact cRow_len _ _
            have hel : e.length = N := by rw [← hee]; exact eRow_len _ _
            rw [hcc] at s2 s3 s4 s5 ⊢
            rw [hee] at u1 u2 u3 u4 ⊢
            clear hcc hee he t1 t2 hrl hfc hol hl1 hl2 q2 q4 hN hcnt hfst hsm
            repeat' (first | simp (maxDischargeDepth := 9) -implicitDefEqProofs -dsimp only [go_sem, seval, en, *] | simp (disch := omega) only [wrap64, tdiv2, tmod2] | ((with_reducible refine Zv ?_ ?_); focus (first | omega | exact rfl)) | ((with_reducible refine Zu ?_ ?_); focus omega) | ((with_reducible refine Zt (fun oF hoF hnF hnF' => ?_)); (try simp only [upd_none, ne_eq, not_and] at hoF)))
            refine loop_next _ _ _ _ (2) ?_; (repeat' (first | simp (maxDischargeDepth := 9) -implicitDefEqProofs -dsimp only [go_sem, seval,  en2, *] | simp (disch := omega) only [wrap64, tdiv2, tmod2])) <;> (repeat' refine And.intro ?_ ?_) <;> (first | omega | rfl | assumption | skip)
          · have ho := eRow_odd (l := (opsG g).take (2 * i + 1)) (N := N) he
            rw [← t2] at ho
            have hb : (x1 % 2 == 0) = false := by simp [he]
            obtain ⟨c, hcc⟩ : ∃ c, cRow ((opsG g).take (2 * i + 1)) N = c := ⟨_, rfl⟩
            obtain ⟨e, hee⟩ : ∃ c, eRow ((opsG g).take (2 * i + 1)) N = c := ⟨_, rfl⟩
            have hcl : c.length = N := by rw [← hcc]; exact cRow_len _ _
            rw [hcc] at s2 s3 s4 s5 ⊢
            rw [hee] at ho ⊢
            have ho' := ho.symm
            clear hcc hee he t1 t2 hrl hfc hol hl1 hl2 q2 q4 hN hcnt hfst ho hsm
            repeat' (first | simp (maxDischargeDepth := 9) -implicitDefEqProofs -dsimp only [go_sem, seval, en, *] | simp (disch := omega) only [wrap64, tdiv2, tmod2] | ((with_reducible refine Zv ?_ ?_); focus (first | omega | exact rfl)) | ((with_reducible refine Zu ?_ ?_); focus omega) | ((with_reducible refine Zt (fun oF hoF hnF hnF' => ?_)); (try simp only [upd_none, ne_eq, not_and] at hoF)))
            refine loop_next _ _ _ _ (2) ?_; (repeat' (first | simp (maxDischargeDepth := 9) -implicitDefEqProofs -dsimp only [go_sem, seval,  en2, *] | simp (disch := omega) only [wrap64, tdiv2, tmod2])) <;> (repeat' refine And.intro ?_ ?_) <;> (first | omega | rfl | assumption | skip)
        · have e0 : 2 * i + 2 = 2 * (i + 1) := by omega
          have en2 : ((2 : Nat) : Int) = 2 := rfl
          rw [e0]
          clear t1 t2 hrl hfc hol hl1 hl2 q2 q4 hN hcnt hfst w1 w2 hsm
          repeat' (first | simp (maxDischargeDepth := 9) -implicitDefEqProofs -dsimp only [go_sem, seval, en2, *] | simp (disch := omega) only [wrap64, tdiv2, tmod2] | ((with_reducible refine Zv ?_ ?_); focus (first | omega | exact rfl)) | ((with_reducible refine Zu ?_ ?_); focus omega) | ((with_reducible refine Zt (fun oF hoF hnF hnF' => ?_)); (try simp only [upd_none, ne_eq, not_and] at hoF)))
          refine loop_next _ _ _ _ (i + 1) ?_; (repeat' (first | simp (maxDischargeDepth := 9) -implicitDefEqProofs -dsimp only [go_sem, seval, *] | simp (disch := omega) only [wrap64, tdiv2, tmod2])) <;> (repeat' refine And.intro ?_ ?_) <;> (first | omega | rfl | assumption | skip)
    · have hlt' : ¬ (i : Int) < g.ands.length := by omega
      have ei : i = g.ands.length := by omega
      subst ei
      have e0 : (opsG g).take (2 * g.ands.length) = opsG g := List.take_of_length_le (by rw [opsG_len]; exact Nat.le_refl _)
      rw [e0]
      clear hlt hi e0
      obtain ⟨E, hE⟩ : ∃ E, (eRow (opsG g) N) = E := ⟨_, rfl⟩
      rw [hE]
      have hol := opsG_len g
      repeat' (first | simp (maxDischargeDepth := 9) -implicitDefEqProofs -dsimp only [go_sem, seval, *] | simp (disch := omega) only [wrap64, tdiv2, tmod2] | ((with_reducible refine Zv ?_ ?_); focus (first | omega | exact rfl)) | ((with_reducible refine Zu ?_ ?_); focus omega) | ((with_reducible refine Zt (fun oF hoF hnF hnF' => ?_)); (try simp only [upd_none, ne_eq, not_and] at hoF)))
      refine loop_rule (fun i : Nat => [(8, some (.int .i64 i)), (1, some (.cptr (aigL g))), (3, some (.vec o1 N)), (4, some (.vec o2 N))])
        (fun i => upd (upd σ o1 (.vec 1 N ((cRow (opsG g ++ g.outs.take i) N).map encInt))) o2 (.vec 1 N (E.map encInt))) (fun i => i ≤ g.outs.length) (fun i => g.outs.length - i) 0 ?_ ?_
      · have e0 : opsG g ++ [] = opsG g := List.append_nil _
        (repeat' (first | simp (maxDischargeDepth := 9) -implicitDefEqProofs -dsimp only [go_sem, seval, e0, Int.natCast_zero, *] | simp (disch := omega) only [wrap64, tdiv2, tmod2])) <;> (repeat' refine And.intro ?_ ?_) <;> (first | omega | rfl | assumption | skip)
      · intro i hi
        by_cases hlt : i < g.outs.length
        · have hlt' : (i : Int) < g.outs.length := by omega
          have hb := hrl g.outs[i] (by unfold rts; exact List.mem_append_left _ (List.getElem_mem hlt))
          have hsn := take_snoc hlt
          obtain ⟨a, ha⟩ : ∃ a, g.outs[i] = a := ⟨_, rfl⟩
          rw [ha] at hb hsn
          obtain ⟨s1, s2, s3, s4, s5⟩ := cstep (l := opsG g ++ g.outs.take i) (N := N) hb.1 (by omega) (by rw [List.length_append, List.length_take]; omega)
          have hsn2 : opsG g ++ g.outs.take i ++ [a] = opsG g ++ g.outs.take (i + 1) := by rw [hsn, List.append_assoc]
          rw [hsn2] at s3
          have s6 : a / 2 < N := by omega
          have s7 : a ≤ 1000000 := by omega
          have s8 := hb.1
          obtain ⟨c, hcc⟩ : ∃ c, cRow (opsG g ++ g.outs.take i) N = c := ⟨_, rfl⟩
          have hcl : c.length = N := by rw [← hcc]; exact cRow_len _ _
          rw [hcc] at s2 s3 s4 s5 ⊢
          clear hcc hrl hfc hN hcnt hfst hb hsn hsn2 hE hc hol hsm
          repeat' (first | simp (maxDischargeDepth := 9) -implicitDefEqProofs -dsimp only [go_sem, seval, *] | simp (disch := omega) only [wrap64, tdiv2, tmod2] | ((with_reducible refine Zv ?_ ?_); focus (first | omega | exact rfl)) | ((with_reducible refine Zu ?_ ?_); focus omega) | ((with_reducible refine Zt (fun oF hoF hnF hnF' => ?_)); (try simp only [upd_none, ne_eq, not_and] at hoF)))
          refine loop_next _ _ _ _ (i + 1) ?_; (repeat' (first | simp (maxDischargeDepth := 9) -implicitDefEqProofs -dsimp only [go_sem, seval, *] | simp (disch := omega) only [wrap64, tdiv2, tmod2])) <;> (repeat' refine And.intro ?_ ?_) <;> (first | omega | rfl | assumption | skip)
        · have hlt' : ¬ (i : Int) < g.outs.length := by omega
          have ei : i = g.outs.length := by omega
          subst ei
          have e0 : g.outs.take g.outs.length = g.outs := List.take_length
          rw [e0]
          clear hlt hi e0
          repeat' (first | simp (maxDischargeDepth := 9) -implicitDefEqProofs -dsimp only [go_sem, seval, *] | simp (disch := omega) only [wrap64, tdiv2, tmod2] | ((with_reducible refine Zv ?_ ?_); focus (first | omega | exact rfl)) | ((with_reducible refine Zu ?_ ?_); focus omega) | ((with_reducible refine Zt (fun oF hoF hnF hnF' => ?_)); (try simp only [upd_none, ne_eq, not_and] at hoF)))
          refine loop_rule (fun i : Nat => [(9, some (.int .i64 i)), (1, some (.cptr (aigL g))), (3, some (.vec o1 N)), (4, some (.vec o2 N))])
            (fun i => upd (upd σ o1 (.vec 1 N ((cRow (opsG g ++ g.outs ++ (g.flops.map (·.next)).take i) N).map encInt))) o2 (.vec 1 N (E.map encInt))) (fun i => i ≤ g.flops.length) (fun i => g.flops.length - i) 0 ?_ ?_
          · have e0 : opsG g ++ g.outs ++ [] = opsG g ++ g.outs := List.append_nil _
            have e1 : (g.flops.map (·.next)).take 0 = [] := rfl
            rw [e1, e0]
            (repeat' (first | simp (maxDischargeDepth := 9) -implicitDefEqProofs -dsimp only [go_sem, seval, Int.natCast_zero, *] | simp (disch := omega) only [wrap64, tdiv2, tmod2])) <;> (repeat' refine And.intro ?_ ?_) <;> (first | omega | rfl | assumption | skip)
          · intro i hi
            by_cases hlt : i < g.flops.length
            · have hlt' : (i : Int) < g.flops.length := by omega
              have hb := hrl g.flops[i].next (by unfold rts; exact List.mem_append_right _ (List.mem_map_of_mem (List.getElem_mem hlt)))
              have hsn := take_snoc (l := g.flops.map (·.next)) (i := i) (by simpa using hlt)
              rw [List.getElem_map] at hsn
              obtain ⟨f, hf'⟩ : ∃ f, g.flops[i] = f := ⟨_, rfl⟩
              rw [hf'] at hb hsn
              obtain ⟨a, ha⟩ : ∃ a, f.next = a := ⟨_, rfl⟩
              rw [ha] at hb hsn
              obtain ⟨s1, s2, s3, s4, s5⟩ := cstep (l := opsG g ++ g.outs ++ (g.flops.map (·.next)).take i) (N := N) hb.1 (by omega) (by rw [List.length_append, List.length_append, List.length_take, List.length_map]; omega)
              have hsn2 : opsG g ++ g.outs ++ (g.flops.map (·.next)).take i ++ [a] = opsG g ++ g.outs ++ (g.flops.map (·.next)).take (i + 1) := by rw [hsn, ← List.append_assoc]
              rw [hsn2] at s3
              have s6 : a / 2 < N := by omega
              have s7 : a ≤ 1000000 := by omega
              have s8 := hb.1
              obtain ⟨c, hcc⟩ : ∃ c, cRow (opsG g ++ g.outs ++ (g.flops.map (·.next)).take i) N = c := ⟨_, rfl⟩
              have hcl : c.length = N := by rw [← hcc]; exact cRow_len _ _
              rw [hcc] at s2 s3 s4 s5 ⊢
              clear hcc hrl hfc hN hcnt hfst hb hsn hsn2 hE hc hol hsm
              repeat' (first | simp (maxDischargeDepth := 9) -implicitDefEqProofs -dsimp only [go_sem, seval, *] | simp (disch := omega) only [wrap64, tdiv2, tmod2] | ((with_reducible refine Zv ?_ ?_); focus (first | omega | exact rfl)) | ((with_reducible refine Zu ?_ ?_); focus omega) | ((with_reducible refine Zt (fun oF hoF hnF hnF' => ?_)); (try simp only [upd_none, ne_eq, not_and] at hoF)))
              refine loop_next _ _ _ _ (i + 1) ?_; (repeat' (first | simp (maxDischargeDepth := 9) -implicitDefEqProofs -dsimp only [go_sem, seval, *] | simp (disch := omega) only [wrap64, tdiv2, tmod2])) <;> (repeat' refine And.intro ?_ ?_) <;> (first | omega | rfl | assumption | skip)
            · have hlt' : ¬ (i : Int) < g.flops.length := by omega
              have ei : i = g.flops.length := by omega
              subst ei
              have e1 : (g.flops.map (·.next)).take g.flops.length = g.flops.map (·.next) := List.take_of_length_le (by simp)
              have e2 : opsG g ++ g.outs ++ g.flops.map (·.next) = opsG g ++ rts g := by unfold rts; rw [List.append_assoc]
              rw [e1, e2]
              have hCl := cRow_len (opsG g ++ rts g) N
              have hEl := eRow_len (opsG g) N
              have hC : ∀ n, n < N → (cRow (opsG g ++ rts g) N).getD n 0 = ((cntL (opsG g) n + cntL (rts g) n : Nat) : Int) := fun n hn => by rw [cRow_get hn, cntL_app]
              have hEg : ∀ n, n < N → E.getD n 0 = ((cntE (opsG g) n : Nat) : Int) := fun n hn => by rw [← hE, eRow_get hn]
              rw [hE] at hEl
              obtain ⟨C, hCC⟩ : ∃ C, cRow (opsG g ++ rts g) N = C := ⟨_, rfl⟩
              rw [hCC] at hC hCl ⊢
              clear hlt hi e1 e2 hE hCC hrl
              repeat' (first | simp (maxDischargeDepth := 9) -implicitDefEqProofs -dsimp only [go_sem, seval, *] | simp (disch := omega) only [wrap64, tdiv2, tmod2] | ((with_reducible refine Zv ?_ ?_); focus (first | omega | exact rfl)) | ((with_reducible refine Zu ?_ ?_); focus omega) | ((with_reducible refine Zt (fun oF hoF hnF hnF' => ?_)); (try simp only [upd_none, ne_eq, not_and] at hoF)) | ((with_reducible apply ACalls.one1); (focus ((first | with_reducible refine hc _ | with_reducible refine hfc _) <;> (first | (simp (maxDischargeDepth := 9) -implicitDefEqProofs -dsimp only [go_sem, seval, *]; done) | omega))); (focus (first | trivial | with_reducible exact rfl | (simp (maxDischargeDepth := 9) -implicitDefEqProofs -dsimp only [go_sem, seval]; done)))))
              obtain ⟨o3, e3⟩ : ∃ x, x = oF := ⟨oF, rfl⟩
              subst e3
              obtain ⟨v1, v2, v3⟩ := hoF
              have v4 : ¬ o1 = o3 := fun e => v2 e.symm
              have v5 : ¬ o2 = o3 := fun e => v1 e.symm
              clear hnF hnF' hc hfc
              have hf1 : 1 ≤ g.first := by omega
              obtain ⟨f, hff⟩ : ∃ f, g.first.toNat = f := ⟨_, rfl⟩
              have hff' : g.first = (f : Int) := by omega
              have hrep : (List.replicate N [AV.bool false]).flatten = (iRow g N f).map encBool := by rw [rep_bool, ← hff, iRow_first g N (by omega)]
              have hfN : f ≤ N := by omega
              refine loop_rule (fun n : Nat => [(11, some (.int .i64 n)), (10, some (.vec o3 N)), (3, some (.vec o1 N)), (4, some (.vec o2 N))])
                (fun n => upd (upd (upd σ o1 (.vec 1 N (C.map encInt))) o2 (.vec 1 N (E.map encInt))) o3 (.vec 1 N ((iRow g N n).map encBool))) (fun n => f ≤ n ∧ n ≤ N) (fun n => N - n) f ?_ ?_
              · rw [← hrep]
                clear hrep
                (repeat' (first | simp (maxDischargeDepth := 9) -implicitDefEqProofs -dsimp only [go_sem, seval, *] | simp (disch := omega) only [wrap64, tdiv2, tmod2])) <;> (repeat' refine And.intro ?_ ?_) <;> (first | omega | rfl | assumption | skip)
              · rintro n ⟨hn1, hn2⟩
                clear hrep
                have hil := iRow_len g N n
                by_cases hlt : n < N
                · have hlt' : (n : Int) < N := by omega
                  have hs := iRow_set g hlt
                  have hp := put_bool (iRow g N n) n (innM g n) (by omega)
                  rw [hs] at hp
                  have hie := inn_eq (g := g) (n := (n : Int)) (by omega)
                  have hc1 := head_int (l := C) (i := n) (by omega)
                  have he1 := head_int (l := E) (i := n) (by omega)
                  rw [hC n hlt] at hc1
                  rw [hEg n hlt] at he1
                  obtain ⟨x, hx⟩ : ∃ x, cntL (opsG g) n + cntL (rts g) n = x := ⟨_, rfl⟩
                  obtain ⟨y, hy⟩ : ∃ x, cntE (opsG g) n = x := ⟨_, rfl⟩
                  rw [hx] at hc1 hie
                  rw [hy] at he1 hie
                  obtain ⟨b, hb⟩ : ∃ b, innM g n = b := ⟨_, rfl⟩
                  rw [hb] at hp hie
                  obtain ⟨q, hq⟩ : ∃ q, iRow g N n = q := ⟨_, rfl⟩
                  rw [hq] at hp hil ⊢
                  clear hs hx hy hb hq hC hEg hN hcnt hfst hff hff' hf1 hsm
                  by_cases hx1 : x = 1
                  · have hxb : ((x : Int) == 1) = true := by simp [hx1]
                    by_cases hy1 : y = 1
                    · have hyb : ((y : Int) == 1) = true := by simp [hy1]
                      have hbt : b = true := by rw [hie, hx1, hy1]; rfl
                      subst hbt
                      clear hie hx1 hy1
                      repeat' (first | simp (maxDischargeDepth := 9) -implicitDefEqProofs -dsimp only [go_sem, seval, *] | simp (disch := omega) only [wrap64, tdiv2, tmod2] | ((with_reducible refine Zv ?_ ?_); focus (first | omega | exact rfl)) | ((with_reducible refine Zu ?_ ?_); focus omega) | ((with_reducible refine Zt (fun oF hoF hnF hnF' => ?_)); (try simp only [upd_none, ne_eq, not_and] at hoF)))
                      refine loop_next _ _ _ _ (n + 1) ?_; (repeat' (first | simp (maxDischargeDepth := 9) -implicitDefEqProofs -dsimp only [go_sem, seval, *] | simp (disch := omega) only [wrap64, tdiv2, tmod2])) <;> (repeat' refine And.intro ?_ ?_) <;> (first | omega | rfl | assumption | skip)
                    · have hyb : ((y : Int) == 1) = false := by simp; omega
                      have hbt : b = false := by rw [hie]; simp [hy1]
                      subst hbt
                      clear hie hx1 hy1
                      repeat' (first | simp (maxDischargeDepth := 9) -implicitDefEqProofs -dsimp only [go_sem, seval, *] | simp (disch := omega) only [wrap64, tdiv2, tmod2] | ((with_reducible refine Zv ?_ ?_); focus (first | omega | exact rfl)) | ((with_reducible refine Zu ?_ ?_); focus omega) | ((with_reducible refine Zt (fun oF hoF hnF hnF' => ?_)); (try simp only [upd_none, ne_eq, not_and] at hoF)))
                      refine loop_next _ _ _ _ (n + 1) ?_; (repeat' (first | simp (maxDischargeDepth := 9) -implicitDefEqProofs -dsimp only [go_sem, seval, *] | simp (disch := omega) only [wrap64, tdiv2, tmod2])) <;> (repeat' refine And.intro ?_ ?_) <;> (first | omega | rfl | assumption | skip)
                  · have hxb : ((x : Int) == 1) = false := by simp; omega
                    have hbt : b = false := by rw [hie]; simp [hx1]
                    subst hbt
                    clear hie hx1
                    repeat' (first | simp (maxDischargeDepth := 9) -implicitDefEqProofs -dsimp only [go_sem, seval, *] | simp (disch := omega) only [wrap64, tdiv2, tmod2] | ((with_reducible refine Zv ?_ ?_); focus (first | omega | exact rfl)) | ((with_reducible refine Zu ?_ ?_); focus omega) | ((with_reducible refine Zt (fun oF hoF hnF hnF' => ?_)); (try simp only [upd_none, ne_eq, not_and] at hoF)))
                    refine loop_next _ _ _ _ (n + 1) ?_; (repeat' (first | simp (maxDischargeDepth := 9) -implicitDefEqProofs -dsimp only [go_sem, seval, *] | simp (disch := omega) only [wrap64, tdiv2, tmod2])) <;> (repeat' refine And.intro ?_ ?_) <;> (first | omega | rfl | assumption | skip)
                · have hlt' : ¬ (n : Int) < N := by omega
                  have en : n = N := by omega
                  subst en
                  clear hC hEg hN hcnt hfst hff hff' hf1 hsm
                  repeat' (first | simp (maxDischargeDepth := 9) -implicitDefEqProofs -dsimp only [go_sem, seval, *] | simp (disch := omega) only [wrap64, tdiv2, tmod2] | ((with_reducible refine Zv ?_ ?_); focus (first | omega | exact rfl)) | ((with_reducible refine Zu ?_ ?_); focus omega) | ((with_reducible refine Zt (fun oF hoF hnF hnF' => ?_)); (try simp only [upd_none, ne_eq, not_and] at hoF)))
                  refine fin_bools (o := o3) (n := n) ?_ hil rfl ?_
                  · simp (maxDischargeDepth := 9) -implicitDefEqProofs -dsimp only [go_sem, seval, *]
                  · (repeat' (first | simp (maxDischargeDepth := 9) -implicitDefEqProofs -dsimp only [go_sem, seval, *] | simp (disch := omega) only [wrap64, tdiv2, tmod2])) <;> (repeat' refine And.intro ?_ ?_) <;> (first | omega | rfl | assumption | skip)
end Go.Proofs.Ytapnlmhfacoceaa

namespace Go.Proofs.Ytapnlmhfacoceaa
open Abs Fil Fil.Rw
open Eqv (moveL)
theorem iRow_get (g : Aig) {N n : Nat} (h : n < N) : ∃ hh : n < (iRow g N N).length, (iRow g N N)[n] = innM g n := by
  refine ⟨by rw [iRow_len]; exact h, ?_⟩
  simp [iRow, h]
theorem flat_i1 (x : Int) : flat [AV.int .i64 x] = [AV.int .i64 x] := rfl
def LvOk (g : Aig) (N : Nat) (a : Int) : Prop := ∀ σ,
    ((leavesG g a).length ≤ 100000 → ACalls Try.prog 54 [encAig g, .slice ((iRow g N N).map encBool) .no, .slice [] .nil, .int .i64 a] σ (NewO σ (fun o => .vec o (leavesG g a).length) (.vec 1 (leavesG g a).length ((leavesG g a).map encInt)))) ∧
    ∀ (o : Nat) (l : List Int) (n : Nat), n = l.length → σ o = some (.vec 1 n (l.map encInt)) → n + (leavesG g a).length ≤ 100000 →
      ACalls Try.prog 54 [encAig g, .slice ((iRow g N N).map encBool) .no, .vec o n, .int .i64 a] σ (fun r s => r = .ret (.vec o (n + (leavesG g a).length)) ∧ s = upd σ o (.vec 1 (n + (leavesG g a).length) ((l ++ leavesG g a).map encInt)))
set_option maxHeartbeats 8000000 in
theorem rf_leaf (g : Aig) (N : Nat) (a : Int) (h0 : 0 ≤ a) (ha : a < 2 * N) (ha1 : a ≤ 1000000) (hn : ¬ (a % 2 = 0 ∧ innM g (a / 2) = true)) : LvOk g N a := fun σ => by
  obtain ⟨I, hI, hh, hget⟩ : ∃ I : List Bool, iRow g N N = I ∧ ∃ hh : (a / 2).toNat < I.length, I[(a / 2).toNat] = innM g (a / 2) := by
    obtain ⟨hh, hget⟩ := iRow_get g (N := N) (n := (a / 2).toNat) (by omega)
    rw [show (((a / 2).toNat : Nat) : Int) = a / 2 by omega] at hget
    exact ⟨_, rfl, hh, hget⟩
  have hlv := leaves_leaf (g := g) a hn
  rw [hlv]
  rw [hI]
  by_cases hodd : a % 2 = 1
  · have hb : (a % 2 == 1) = true := by simp [hodd]
    clear hget hn hI
    constructor
    · intro _
      refine calls_x mixed Try.func54 b54 n54 rfl q54 (by simp) ?_; unfold c54 r54
      repeat' (first | simp (maxDischargeDepth := 9) -implicitDefEqProofs -dsimp only [go_sem, seval, flat_i1, *] | simp (disch := omega) only [wrap64, tdiv2, tmod2] | ((with_reducible refine Zv ?_ ?_); focus (first | omega | exact rfl)) | ((with_reducible refine Zu ?_ ?_); focus omega) | ((with_reducible refine Zt (fun oF hoF hnF hnF' => ?_)); (try simp only [upd_none, ne_eq, not_and] at hoF)))
      refine fin_new oF hoF ?_
      (repeat' (first | simp (maxDischargeDepth := 9) -implicitDefEqProofs -dsimp only [go_sem, seval, flat_nil, List.nil_append, List.map_cons, List.map_nil, List.length_cons, List.length_nil, Nat.zero_add, *] | simp (disch := omega) only [wrap64, tdiv2, tmod2])) <;> (repeat' refine And.intro ?_ ?_) <;> (first | omega | rfl | assumption | skip)
    · intro o l n hnl ho hle
      refine calls_x mixed Try.func54 b54 n54 rfl q54 (by simp) ?_; unfold c54 r54
      repeat' (first | simp (maxDischargeDepth := 9) -implicitDefEqProofs -dsimp only [go_sem, seval, flat_i1, *] | simp (disch := omega) only [wrap64, tdiv2, tmod2] | ((with_reducible refine Zv ?_ ?_); focus (first | omega | exact rfl)) | ((with_reducible refine Zu ?_ ?_); focus omega) | ((with_reducible refine Zt (fun oF hoF hnF hnF' => ?_)); (try simp only [upd_none, ne_eq, not_and] at hoF)))
      refine fin_eq ?_
      (repeat' (first | simp (maxDischargeDepth := 9) -implicitDefEqProofs -dsimp only [go_sem, seval, List.map_append, List.map_cons, List.map_nil, List.length_cons, List.length_nil, Nat.zero_add, *] | simp (disch := omega) only [wrap64, tdiv2, tmod2])) <;> (repeat' refine And.intro ?_ ?_) <;> (first | omega | rfl | assumption | skip)
  · have hni : innM g (a / 2) = false := by
      cases hi : innM g (a / 2) with
      | false => rfl
      | true => exact absurd ⟨by omega, hi⟩ hn
    have hb : (a % 2 == 1) = false := by simp; omega
    rw [hni] at hget
    clear hn hni hI hodd
    constructor
    · intro _
      refine calls_x mixed Try.func54 b54 n54 rfl q54 (by simp) ?_; unfold c54 r54
      repeat' (first | simp (maxDischargeDepth := 9) -implicitDefEqProofs -dsimp only [go_sem, seval, flat_i1, *] | simp (disch := omega) only [wrap64, tdiv2, tmod2] | ((with_reducible refine Zv ?_ ?_); focus (first | omega | exact rfl)) | ((with_reducible refine Zu ?_ ?_); focus omega) | ((with_reducible refine Zt (fun oF hoF hnF hnF' => ?_)); (try simp only [upd_none, ne_eq, not_and] at hoF)))
      refine fin_new oF hoF ?_
      (repeat' (first | simp (maxDischargeDepth := 9) -implicitDefEqProofs -dsimp only [go_sem, seval, flat_nil, List.nil_append, List.map_cons, List.map_nil, List.length_cons, List.length_nil, Nat.zero_add, *] | simp (disch := omega) only [wrap64, tdiv2, tmod2])) <;> (repeat' refine And.intro ?_ ?_) <;> (first | omega | rfl | assumption | skip)
    · intro o l n hnl ho hle
      refine calls_x mixed Try.func54 b54 n54 rfl q54 (by simp) ?_; unfold c54 r54
      repeat' (first | simp (maxDischargeDepth := 9) -implicitDefEqProofs -dsimp only [go_sem, seval, flat_i1, *] | simp (disch := omega) only [wrap64, tdiv2, tmod2] | ((with_reducible refine Zv ?_ ?_); focus (first | omega | exact rfl)) | ((with_reducible refine Zu ?_ ?_); focus omega) | ((with_reducible refine Zt (fun oF hoF hnF hnF' => ?_)); (try simp only [upd_none, ne_eq, not_and] at hoF)))
      refine fin_eq ?_
      (repeat' (first | simp (maxDischargeDepth := 9) -implicitDefEqProofs -dsimp only [go_sem, seval, List.map_append, List.map_cons, List.map_nil, List.length_cons, List.length_nil, Nat.zero_add, *] | simp (disch := omega) only [wrap64, tdiv2, tmod2])) <;> (repeat' refine And.intro ?_ ?_) <;> (first | omega | rfl | assumption | skip)
set_option maxRecDepth 20000 in
set_option maxHeartbeats 8000000 in
theorem rf_leaves (g : Aig) (N : Nat) (hg : Sml g) (hN : 1 + g.count = (N : Int)) : ∀ (f : Nat) (a : Int), (a / 2).toNat ≤ f → 0 ≤ a → a < 2 * N → LvOk g N a := by
  have hlo := hg.lo
  have h1 := hg.ins
  have h2 := hg.flops
  have h3 := hg.ands
  have hsm : Small g := check_small hg.wf hg.chk
  have hfc := fun τ => rf_first g τ hsm
  have hfst : g.first ≤ 200 ∧ 1 ≤ g.first := by simp only [Aig.first]; omega
  have cf := count_first g
  intro f
  induction f with
  | zero =>
    intro a hf h0 ha
    refine rf_leaf g N a h0 ha (by have := hg.fine.cnt; omega) fun h => ?_
    have := innM_first h.2; omega
  | succ f ih =>
    intro a hf h0 ha
    have ha1 : a ≤ 1000000 := by have := hg.fine.cnt; omega
    by_cases hin : a % 2 = 0 ∧ innM g (a / 2) = true
    · intro σ
      obtain ⟨I, hI, hh, hget⟩ : ∃ I : List Bool, iRow g N N = I ∧ ∃ hh : (a / 2).toNat < I.length, I[(a / 2).toNat] = true := by
        obtain ⟨hh, hget⟩ := iRow_get g (N := N) (n := (a / 2).toNat) (by omega)
        rw [show (((a / 2).toNat : Nat) : Int) = a / 2 by omega, hin.2] at hget
        exact ⟨_, rfl, hh, hget⟩
      obtain ⟨m, hm, e1, _, k1, k2⟩ := inner_kids hg (show a < 2 * (1 + g.count) by omega) hin.2
      have hlv := leaves_inner hg h0 (show a < 2 * (1 + g.count) by omega) hin.1 hin.2 hm e1
      have hml : (m : Int) < g.ands.length := by omega
      have i0 := ih g.ands[m].1 (by omega) k1.1 (by omega)
      have i1 := ih g.ands[m].2 (by omega) k2.1 (by omega)
      obtain ⟨x0, hx0⟩ : ∃ x, g.ands[m].1 = x := ⟨_, rfl⟩
      obtain ⟨x1, hx1⟩ : ∃ x, g.ands[m].2 = x := ⟨_, rfl⟩
      rw [hx0] at i0 hlv
      rw [hx1] at i1 hlv
      unfold LvOk at i0 i1
      rw [hlv]
      rw [hI] at i0 i1
      rw [hI]
      obtain ⟨L0, hL0⟩ : ∃ L, leavesG g x0 = L := ⟨_, rfl⟩
      obtain ⟨L1, hL1⟩ : ∃ L, leavesG g x1 = L := ⟨_, rfl⟩
      rw [hL0] at i0
      rw [hL1] at i1
      rw [hL0, hL1]
      have hb : (a % 2 == 1) = false := by simp; omega
      have hsub : a / 2 - g.first = m := by omega
      have hfl : g.first ≤ a / 2 := by omega
      have hf1 := hfst.1
      have hf2 := hfst.2
      rw [List.length_append]
      clear ih hlv e1 k1 k2 hL0 hL1 hI hin hN cf hfst hsm h1 h2 h3 hf
      constructor
      · intro hle
        have j0 := fun τ => (i0 τ).1 (by omega)
        have j1 := fun τ o h => (i1 τ).2 o L0 L0.length rfl h (by omega)
        clear i0 i1
        refine calls_x mixed Try.func54 b54 n54 rfl q54 (by simp) ?_; unfold c54 r54
        repeat' (first | simp (maxDischargeDepth := 9) -implicitDefEqProofs -dsimp only [go_sem, seval, flat_i1, *] | simp (disch := omega) only [wrap64, tdiv2, tmod2] | ((with_reducible refine Zv ?_ ?_); focus (first | omega | exact rfl)) | ((with_reducible refine Zu ?_ ?_); focus omega) | ((with_reducible refine Zt (fun oF hoF hnF hnF' => ?_)); (try simp only [upd_none, ne_eq, not_and] at hoF)) | ((with_reducible apply ACalls.one1); (focus ((first | with_reducible refine hfc _) <;> (first | (simp (maxDischargeDepth := 9) -implicitDefEqProofs -dsimp only [go_sem, seval, *]; done) | omega))); (focus (first | trivial | with_reducible exact rfl | (simp (maxDischargeDepth := 9) -implicitDefEqProofs -dsimp only [go_sem, seval]; done)))) | ((with_reducible apply id_one0); (focus (intro tS hS; ((first | with_reducible refine hfc _) <;> (first | (simp (maxDischargeDepth := 9) -implicitDefEqProofs -dsimp only [go_sem, seval, *]; done) | omega | ((with_reducible refine Sub.get hS ?_); simp (maxDischargeDepth := 9) -implicitDefEqProofs -dsimp only [go_sem, seval, *]; done))))); (focus (first | trivial | (simp (maxDischargeDepth := 9) -implicitDefEqProofs -dsimp only [go_sem, seval, *]; done)))))
        refine (j0 _).newO ?_
        intro oN hoN hnN hnN'
        simp only [upd_none, ne_eq, not_and] at hoN
        obtain ⟨w1, w2⟩ := hoN
        have w3 : ¬ oF = oN := fun e => w1 e.symm
        clear hnN hnN'
        repeat' (first | simp (maxDischargeDepth := 9) -implicitDefEqProofs -dsimp only [go_sem, seval, *] | simp (disch := omega) only [wrap64, tdiv2, tmod2] | ((with_reducible refine Zv ?_ ?_); focus (first | omega | exact rfl)) | ((with_reducible refine Zu ?_ ?_); focus omega) | ((with_reducible refine Zt (fun oF hoF hnF hnF' => ?_)); (try simp only [upd_none, ne_eq, not_and] at hoF)) | ((with_reducible apply ACalls.one1); (focus ((first | with_reducible refine j1 _ _ ?_) <;> (first | (simp (maxDischargeDepth := 9) -implicitDefEqProofs -dsimp only [go_sem, seval, *]; done) | omega))); (focus (first | trivial | with_reducible exact rfl | (simp (maxDischargeDepth := 9) -implicitDefEqProofs -dsimp only [go_sem, seval]; done)))))
        refine fin_new oN w2 ?_
        (repeat' (first | simp (maxDischargeDepth := 9) -implicitDefEqProofs -dsimp only [go_sem, seval, *] | simp (disch := omega) only [wrap64, tdiv2, tmod2])) <;> (repeat' refine And.intro ?_ ?_) <;> (first | omega | rfl | assumption | skip)
      · intro o l n hnl ho hle
        have j0 := fun τ h => (i0 τ).2 o l n hnl h (by omega)
        have j1 := fun τ h => (i1 τ).2 o (l ++ L0) (n + L0.length) (by rw [List.length_append, hnl]) h (by omega)
        have hass : (l ++ L0) ++ L1 = l ++ (L0 ++ L1) := List.append_assoc _ _ _
        have hadd : n + L0.length + L1.length = n + (L0.length + L1.length) := Nat.add_assoc _ _ _
        rw [hass, hadd] at j1
        obtain ⟨LL, hLL⟩ : ∃ L, l ++ (L0 ++ L1) = L := ⟨_, rfl⟩
        obtain ⟨LM, hLM⟩ : ∃ L, l ++ L0 = L := ⟨_, rfl⟩
        rw [hLL] at j1
        rw [hLL]
        rw [hLM] at j0 j1
        have hon : ¬ σ o = none := by rw [ho]; simp
        clear i0 i1 hass hadd hLL hLM hnl hle
        refine calls_x mixed Try.func54 b54 n54 rfl q54 (by simp) ?_; unfold c54 r54
        repeat' (first | simp (maxDischargeDepth := 9) -implicitDefEqProofs -dsimp only [go_sem, seval, flat_i1, *] | simp (disch := omega) only [wrap64, tdiv2, tmod2] | ((with_reducible refine Zv ?_ ?_); focus (first | omega | exact rfl)) | ((with_reducible refine Zu ?_ ?_); focus omega) | ((with_reducible refine Zt (fun oF hoF hnF hnF' => ?_)); (try simp only [upd_none, ne_eq, not_and] at hoF)) | ((with_reducible apply ACalls.one1); (focus ((first | with_reducible refine hfc _) <;> (first | (simp (maxDischargeDepth := 9) -implicitDefEqProofs -dsimp only [go_sem, seval, *]; done) | omega))); (focus (first | trivial | with_reducible exact rfl | (simp (maxDischargeDepth := 9) -implicitDefEqProofs -dsimp only [go_sem, seval]; done)))) | ((with_reducible apply id_one0); (focus (intro tS hS; ((first | with_reducible refine hfc _) <;> (first | (simp (maxDischargeDepth := 9) -implicitDefEqProofs -dsimp only [go_sem, seval, *]; done) | omega | ((with_reducible refine Sub.get hS ?_); simp (maxDischargeDepth := 9) -implicitDefEqProofs -dsimp only [go_sem, seval, *]; done))))); (focus (first | trivial | (simp (maxDischargeDepth := 9) -implicitDefEqProofs -dsimp only [go_sem, seval, *]; done)))))
        have w1 := hnF o (by simp (maxDischargeDepth := 9) -implicitDefEqProofs -dsimp only [go_sem, seval, *])
        have w2 : ¬ oF = o := fun e => w1 e.symm
        clear hnF hnF'
        repeat' (first | simp (maxDischargeDepth := 9) -implicitDefEqProofs -dsimp only [go_sem, seval, *] | simp (disch := omega) only [wrap64, tdiv2, tmod2] | ((with_reducible refine Zv ?_ ?_); focus (first | omega | exact rfl)) | ((with_reducible refine Zu ?_ ?_); focus omega) | ((with_reducible refine Zt (fun oF hoF hnF hnF' => ?_)); (try simp only [upd_none, ne_eq, not_and] at hoF)) | ((with_reducible apply ACalls.one1); (focus ((first | with_reducible refine j0 _ ?_) <;> (first | (simp (maxDischargeDepth := 9) -implicitDefEqProofs -dsimp only [go_sem, seval, *]; done) | omega))); (focus (first | trivial | with_reducible exact rfl | (simp (maxDischargeDepth := 9) -implicitDefEqProofs -dsimp only [go_sem, seval]; done)))))
        repeat' (first | simp (maxDischargeDepth := 9) -implicitDefEqProofs -dsimp only [go_sem, seval, *] | simp (disch := omega) only [wrap64, tdiv2, tmod2] | ((with_reducible refine Zv ?_ ?_); focus (first | omega | exact rfl)) | ((with_reducible refine Zu ?_ ?_); focus omega) | ((with_reducible refine Zt (fun oF hoF hnF hnF' => ?_)); (try simp only [upd_none, ne_eq, not_and] at hoF)) | ((with_reducible apply ACalls.one1); (focus ((first | with_reducible refine j1 _ ?_) <;> (first | (simp (maxDischargeDepth := 9) -implicitDefEqProofs -dsimp only [go_sem, seval, *]; done) | omega))); (focus (first | trivial | with_reducible exact rfl | (simp (maxDischargeDepth := 9) -implicitDefEqProofs -dsimp only [go_sem, seval]; done)))))
        refine fin_eq ?_
        (repeat' (first | simp (maxDischargeDepth := 9) -implicitDefEqProofs -dsimp only [go_sem, seval, *] | simp (disch := omega) only [wrap64, tdiv2, tmod2])) <;> (repeat' refine And.intro ?_ ?_) <;> (first | omega | rfl | assumption | skip)
    · exact rf_leaf g N a h0 ha ha1 hin
end Go.Proofs.Ytapnlmhfacoceaa

namespace Go.Proofs.Ytapnlmhfacoceaa
open Abs Fil Fil.Rw
open Eqv (moveL)
theorem gi {l : List Int} {n : Nat} (h : n < l.length) : l[n] = l.getD n 0 := by simp [List.getD_eq_getElem?_getD, h]
set_option maxHeartbeats 8000000 in
theorem rf_least (lev l : List Int) (but : Int) (σ : Sig) (hl : ∀ a ∈ l, 0 ≤ a ∧ (a / 2).toNat < lev.length ∧ a ≤ 1000000) (hlen : l.length ≤ 100000) :
    ACalls Try.prog 77 [.slice (l.map encInt) .no, .slice (lev.map encInt) .no, .int .i64 but] σ (fun r s => r = .ret (.int .i64 (lsAt lev l but l.length)) ∧ s = σ) := by
  refine calls_x mixed Try.func77 b77 n77 rfl q77 (by simp) ?_; unfold c77 r77
  repeat' (first | simp (maxDischargeDepth := 9) -implicitDefEqProofs -dsimp only [go_sem, seval, *] | simp (disch := omega) only [wrap64, tdiv2] | ((with_reducible refine Zv ?_ ?_); focus (first | omega | exact rfl)) | ((with_reducible refine Zu ?_ ?_); focus omega))
  refine loop_rule (fun i : Nat => [(8, some (.int .i64 i)), (0, some (.slice (l.map encInt) .no)), (2, some (.int .i64 but)), (7, some (.int .i64 (lsAt lev l but i))), (1, some (.slice (lev.map encInt) .no))]) (fun _ => σ) (fun i => i ≤ l.length) (fun i => l.length - i) 0 ?_ ?_
  · (repeat' (first | simp (maxDischargeDepth := 9) -implicitDefEqProofs -dsimp only [go_sem, seval, Int.natCast_zero, lsAt, *] | simp (disch := omega) only [wrap64, tdiv2])) <;> (repeat' refine And.intro ?_ ?_) <;> (first | omega | rfl | assumption | skip)
  · intro i hi
    by_cases hlt : i < l.length
    · have hlt' : (i : Int) < l.length := by omega
      obtain ⟨b1, b2⟩ := lsAt_bound lev l but i
      obtain ⟨q1, q2, q3⟩ := hl _ (List.getElem_mem hlt)
      have g1 := gi hlt
      have hnx : lsAt lev l but (i + 1) = if (i : Int) ≠ but ∧ (lsAt lev l but i < 0 ∨ lev.getD (l.getD i 0 / 2).toNat 0 < lev.getD (l.getD (lsAt lev l but i).toNat 0 / 2).toNat 0) then (i : Int) else lsAt lev l but i := rfl
      obtain ⟨bst, hb⟩ : ∃ b, lsAt lev l but i = b := ⟨_, rfl⟩
      rw [hb] at hnx b1 b2 ⊢
      obtain ⟨a, ha⟩ : ∃ a, l.getD i 0 = a := ⟨_, rfl⟩
      rw [ha] at g1 hnx
      simp only [g1] at q1 q2 q3
      have g2 := gi q2
      by_cases hbut : (i : Int) = but
      · have e1 : ((i : Int) != but) = false := by simp [hbut]
        rw [if_neg (fun q => q.1 hbut)] at hnx
        clear hl hbut g2 hb ha b1 b2
        repeat' (first | simp (maxDischargeDepth := 9) -implicitDefEqProofs -dsimp only [go_sem, seval, *] | simp (disch := omega) only [wrap64, tdiv2] | ((with_reducible refine Zv ?_ ?_); focus (first | omega | exact rfl)) | ((with_reducible refine Zu ?_ ?_); focus omega))
        refine loop_next _ _ _ _ (i + 1) ?_; (repeat' (first | simp (maxDischargeDepth := 9) -implicitDefEqProofs -dsimp only [go_sem, seval, *] | simp (disch := omega) only [wrap64, tdiv2])) <;> (repeat' refine And.intro ?_ ?_) <;> (first | omega | rfl | assumption | skip)
      · have e1 : ((i : Int) != but) = true := by simp [hbut]
        by_cases hneg : bst < 0
        · rw [if_pos ⟨hbut, .inl hneg⟩] at hnx
          clear hl hbut g2 hb ha b1 b2
          repeat' (first | simp (maxDischargeDepth := 9) -implicitDefEqProofs -dsimp only [go_sem, seval, *] | simp (disch := omega) only [wrap64, tdiv2] | ((with_reducible refine Zv ?_ ?_); focus (first | omega | exact rfl)) | ((with_reducible refine Zu ?_ ?_); focus omega))
          refine loop_next _ _ _ _ (i + 1) ?_; (repeat' (first | simp (maxDischargeDepth := 9) -implicitDefEqProofs -dsimp only [go_sem, seval, *] | simp (disch := omega) only [wrap64, tdiv2])) <;> (repeat' refine And.intro ?_ ?_) <;> (first | omega | rfl | assumption | skip)
        · have hbl : bst.toNat < l.length := by omega
          obtain ⟨r1, r2, r3⟩ := hl _ (List.getElem_mem hbl)
          have g3 := gi hbl
          obtain ⟨c, hc⟩ : ∃ a, l.getD bst.toNat 0 = a := ⟨_, rfl⟩
          rw [hc] at g3 hnx
          simp only [g3] at r1 r2 r3
          have g4 := gi r2
          obtain ⟨u, hu⟩ : ∃ w, lev.getD (a / 2).toNat 0 = w := ⟨_, rfl⟩
          obtain ⟨v, hv⟩ : ∃ w, lev.getD (c / 2).toNat 0 = w := ⟨_, rfl⟩
          rw [hu] at g2 hnx
          rw [hv] at g4 hnx
          have hb0 : 0 ≤ bst := by omega
          by_cases huv : u < v
          · rw [if_pos ⟨hbut, .inr huv⟩] at hnx
            clear hl hbut hb ha b1 hc hu hv
            repeat' (first | simp (maxDischargeDepth := 9) -implicitDefEqProofs -dsimp only [go_sem, seval, *] | simp (disch := omega) only [wrap64, tdiv2] | ((with_reducible refine Zv ?_ ?_); focus (first | omega | exact rfl)) | ((with_reducible refine Zu ?_ ?_); focus omega))
            refine loop_next _ _ _ _ (i + 1) ?_; (repeat' (first | simp (maxDischargeDepth := 9) -implicitDefEqProofs -dsimp only [go_sem, seval, *] | simp (disch := omega) only [wrap64, tdiv2])) <;> (repeat' refine And.intro ?_ ?_) <;> (first | omega | rfl | assumption | skip)
          · rw [if_neg (fun q => by rcases q.2 with q | q; exact hneg q; exact huv q)] at hnx
            clear hl hbut hb ha b1 hc hu hv
            repeat' (first | simp (maxDischargeDepth := 9) -implicitDefEqProofs -dsimp only [go_sem, seval, *] | simp (disch := omega) only [wrap64, tdiv2] | ((with_reducible refine Zv ?_ ?_); focus (first | omega | exact rfl)) | ((with_reducible refine Zu ?_ ?_); focus omega))
            refine loop_next _ _ _ _ (i + 1) ?_; (repeat' (first | simp (maxDischargeDepth := 9) -implicitDefEqProofs -dsimp only [go_sem, seval, *] | simp (disch := omega) only [wrap64, tdiv2])) <;> (repeat' refine And.intro ?_ ?_) <;> (first | omega | rfl | assumption | skip)
    · have hlt' : ¬ (i : Int) < l.length := by omega
      have ei : i = l.length := by omega
      subst ei
      clear hl hi hlt
      repeat' (first | simp (maxDischargeDepth := 9) -implicitDefEqProofs -dsimp only [go_sem, seval, *] | simp (disch := omega) only [wrap64, tdiv2] | ((with_reducible refine Zv ?_ ?_); focus (first | omega | exact rfl)) | ((with_reducible refine Zu ?_ ?_); focus omega))
      refine fin_eq ?_
      (repeat' (first | simp (maxDischargeDepth := 9) -implicitDefEqProofs -dsimp only [go_sem, seval, *] | simp (disch := omega) only [wrap64, tdiv2])) <;> (repeat' refine And.intro ?_ ?_) <;> (first | omega | rfl | assumption | skip)
set_option maxRecDepth 20000 in
set_option maxHeartbeats 8000000 in
theorem rf_joined (b : B) (l : List Int) (σ : Sig) (hJ : JI b l) : ACalls Try.prog 55 [encAig b.g, .slice (l.map encInt) .no] σ (fun r s => r = .ret (.tup [encAig (joinB l.length b l).1.g, .int .i64 (joinB l.length b l).2]) ∧ s = σ) := by
  refine calls_x mixed Try.func55 b55 n55 rfl q55 (by simp) ?_; unfold c55 r55
  repeat' (first | simp (maxDischargeDepth := 9) -implicitDefEqProofs -dsimp only [go_sem, seval, *] | simp (disch := omega) only [wrap64] | ((with_reducible refine Zv ?_ ?_); focus (first | omega | exact rfl)) | ((with_reducible refine Zu ?_ ?_); focus omega) | ((with_reducible refine Zt (fun oF hoF hnF hnF' => ?_)); (try simp only [upd_none, ne_eq, not_and] at hoF)))
  rename_i oH p1 n1 n1'
  obtain ⟨oR, e2⟩ : ∃ x, x = oF := ⟨oF, rfl⟩
  subst e2
  obtain ⟨p2, p3⟩ := hoF
  have p4 : ¬ oH = oR := fun e => p2 e.symm
  clear n1 n1' hnF hnF'
  refine loop_rule (fun x : B × List Int => [(1, some (.slice (x.2.map encInt) .no)), (2, some (.ptr oH 0)), (4, some (.ptr oR 0))])
    (fun x => upd (upd σ oH (.cells (aigL x.1.g))) oR (.cells [.int .i64 0, .slice [] .nil, .slice [] .nil, .slice [] .nil])) (fun x => JI x.1 x.2 ∧ joinB x.2.length x.1 x.2 = joinB l.length b l) (fun x => x.2.length) (b, l) ?_ ?_
  · refine ⟨?_, ?_, hJ, rfl⟩
    · (repeat' (first | simp (maxDischargeDepth := 9) -implicitDefEqProofs -dsimp only [go_sem, seval, *] | simp (disch := omega) only [wrap64])) <;> (repeat' refine And.intro ?_ ?_) <;> (first | omega | rfl | assumption | skip)
    · (repeat' (first | simp (maxDischargeDepth := 9) -implicitDefEqProofs -dsimp only [go_sem, seval, *] | simp (disch := omega) only [wrap64])) <;> (repeat' refine And.intro ?_ ?_) <;> (first | omega | rfl | assumption | skip)
  · rintro ⟨b1, l1⟩ ⟨hJ1, hj⟩
    simp only at hJ1 hj ⊢
    have hne := hJ1.ne
    by_cases h2 : 2 ≤ l1.length
    · have h2' : (1 : Int) < l1.length := by omega
      have hcnt := hJ1.cnt
      have hlen : l1.length ≤ 2000 := by have := hJ1.fine.lo; simp only [Aig.count] at hcnt; omega
      have cL := fun τ => A.ref_Levels b1.g τ hJ1.fine.toWf
      rw [levels_eq hJ1.chk] at cL
      simp only at cL
      have hlev := hJ1.lev
      rw [← hlev] at cL
      have hidx : ∀ a ∈ l1, 0 ≤ a ∧ (a / 2).toNat < b1.lev.length ∧ a ≤ 1000000 := fun a ha => by
        obtain ⟨q1, q2, q3⟩ := hJ1.idx ha
        exact ⟨q1, q2, by omega⟩
      have c1 := fun τ => rf_least b1.lev l1 (-1) τ hidx (by omega)
      rw [ls_one (by omega)] at c1
      obtain ⟨i, hi⟩ : ∃ i, lst b1.lev l1 = i := ⟨_, rfl⟩
      have hil := lst_lt (lev := b1.lev) (show 0 < l1.length by omega)
      have c2 := fun τ => rf_least b1.lev l1 i τ hidx (by omega)
      rw [hi] at c1 hil
      rw [ls_two h2 hil] at c2
      obtain ⟨k, hk⟩ : ∃ k, upI i (lst b1.lev (l1.eraseIdx i)) = k := ⟨_, rfl⟩
      rw [hk] at c2
      obtain ⟨w1, w2, w3, w4⟩ := pair_ref h2 hi hk
      obtain ⟨z0, z1, z2, z3, z4, z5⟩ := hJ1.step h2
      have hstep := joinB_step hJ1 h2
      rw [hj] at hstep
      have hmn : (if k < i then (k : Int) else i) = ((min i k : Nat) : Int) := by split <;> omega
      have hmx : (if i < k then (k : Int) else i) = ((max i k : Nat) : Int) := by split <;> omega
      obtain ⟨p, hp⟩ : ∃ p, min i k = p := ⟨_, rfl⟩
      obtain ⟨q, hq⟩ : ∃ p, max i k = p := ⟨_, rfl⟩
      obtain ⟨hpq1, hpq2⟩ : p < q ∧ q < l1.length := by omega
      rw [hp] at w3 w4 hmn
      rw [hq] at w3 w4 hmx
      have cA := fun τ => A.ref_And b1.g (pairJ b1.lev l1).1 (pairJ b1.lev l1).2 τ hJ1.fine.toWf
      rw [z0] at cA
      have hs1 : (stepJ b1 l1).1.g = (b1.g.And (pairJ b1.lev l1).1 (pairJ b1.lev l1).2).1 := rfl
      have hs2 : (stepJ b1 l1).2 = restJ b1.lev l1 ++ [(b1.g.And (pairJ b1.lev l1).1 (pairJ b1.lev l1).2).2.1] := rfl
      obtain ⟨⟨g', x, e⟩, hr⟩ : ∃ r, b1.g.And (pairJ b1.lev l1).1 (pairJ b1.lev l1).2 = r := ⟨_, rfl⟩
      rw [hr] at cA hs1 hs2
      simp only at cA hs1 hs2
      rw [w3] at cA
      simp only at cA
      have hpl : p < l1.length := by omega
      have gp := gi hpl
      have gq := gi hpq2
      obtain ⟨u, hu⟩ : ∃ u, l1.getD p 0 = u := ⟨_, rfl⟩
      obtain ⟨v, hv⟩ : ∃ u, l1.getD q 0 = u := ⟨_, rfl⟩
      rw [hu] at gp cA
      rw [hv] at gq cA
      clear hJ1 hj hidx w1 w2 w3 hi hk hil hp hq hr hu hv z0 z3 z4 z5 hlev hcnt hJ
      obtain ⟨A1, hA1⟩ : ∃ A, l1.take p = A := ⟨_, rfl⟩
      obtain ⟨A2, hA2⟩ : ∃ A, (l1.take q).drop (p + 1) = A := ⟨_, rfl⟩
      obtain ⟨A3, hA3⟩ : ∃ A, l1.drop (q + 1) = A := ⟨_, rfl⟩
      have s1 : List.take p (l1.map encInt) = A1.map encInt := by rw [← hA1, List.map_take]
      have s2 : List.drop (p + 1) (List.take q (l1.map encInt)) = A2.map encInt := by rw [← hA2, List.map_drop, List.map_take]
      have s3 : List.drop (q + 1) (l1.map encInt) = A3.map encInt := by rw [← hA3, List.map_drop]
      have s4 : List.take l1.length (l1.map encInt) = l1.map encInt := List.take_of_length_le (by simp)
      have t1 : ((p : Int) + 1).toNat = p + 1 := by omega
      have t2 : ((q : Int) + 1).toNat = q + 1 := by omega
      have m4 : p ≤ 2000 := by omega
      have m5 : q ≤ 2000 := by omega
      have m1 : A1.length ≤ 2000 := by rw [← hA1, List.length_take]; omega
      have m2 : A2.length ≤ 2000 := by rw [← hA2, List.length_drop, List.length_take]; omega
      have m3 : A3.length ≤ 2000 := by rw [← hA3, List.length_drop]; omega
      rw [hA1, hA2, hA3] at w4
      rw [w4] at hs2
      have hs3 : (stepJ b1 l1).2.map encInt = A1.map encInt ++ A2.map encInt ++ A3.map encInt ++ [.int .i64 x] := by rw [hs2]; simp
      have hP := Pk.mk (And.intro z1 (And.intro z2 (And.intro hstep.symm (And.intro hs1 hs3))))
      clear hA1 hA2 hA3 w4 hs2 z1 z2 hstep hs1 hs3 hlen
      repeat' (first | simp (maxDischargeDepth := 9) -implicitDefEqProofs -dsimp only [go_sem, seval, gt_iff_lt, List.nil_append, *] | simp (disch := omega) only [wrap64] | ((with_reducible refine Zv ?_ ?_); focus (first | omega | exact rfl)) | ((with_reducible refine Zu ?_ ?_); focus omega) | ((with_reducible refine Zt (fun oF hoF hnF hnF' => ?_)); (try simp only [upd_none, ne_eq, not_and] at hoF)) | ((with_reducible apply ACalls.one1); (focus ((first | with_reducible refine cL _ | with_reducible refine c1 _ | with_reducible refine c2 _ | with_reducible refine cA _) <;> (first | (simp (maxDischargeDepth := 9) -implicitDefEqProofs -dsimp only [go_sem, seval, *]; done) | omega))); (focus (first | trivial | with_reducible exact rfl | (simp (maxDischargeDepth := 9) -implicitDefEqProofs -dsimp only [go_sem, seval]; done)))) | ((with_reducible apply id_one0); (focus (intro tS hS; ((first | with_reducible refine cL _ | with_reducible refine c1 _ | with_reducible refine c2 _ | with_reducible refine cA _) <;> (first | (simp (maxDischargeDepth := 9) -implicitDefEqProofs -dsimp only [go_sem, seval, *]; done) | omega | ((with_reducible refine Sub.get hS ?_); simp (maxDischargeDepth := 9) -implicitDefEqProofs -dsimp only [go_sem, seval, *]; done))))); (focus (first | trivial | (simp (maxDischargeDepth := 9) -implicitDefEqProofs -dsimp only [go_sem, seval, *]; done)))))
      obtain ⟨z1, z2, hstep, hs1, hs3⟩ := hP.out
      have hms : (stepJ b1 l1).2.length < l1.length := by rw [z2]; omega
      refine loop_next _ _ _ _ (stepJ b1 l1) ⟨?_, ?_, ⟨z1, hstep⟩, hms⟩
      · clear hP hstep z1 z2 hms
        (repeat' (first | simp (maxDischargeDepth := 9) -implicitDefEqProofs -dsimp only [go_sem, seval, *] | simp (disch := omega) only [wrap64])) <;> (repeat' refine And.intro ?_ ?_) <;> (first | omega | rfl | assumption | skip)
      · clear hP hstep z1 z2 hms hs3
        (repeat' (first | simp (maxDischargeDepth := 9) -implicitDefEqProofs -dsimp only [go_sem, seval, *] | simp (disch := omega) only [wrap64])) <;> (repeat' refine And.intro ?_ ?_) <;> (first | omega | rfl | assumption | skip)
    · have h1 : ¬ (1 : Int) < l1.length := by omega
      have h3 : l1.length = 1 := by omega
      have hjo := joinB_one (b := b1) h3
      rw [hj] at hjo
      rw [hjo]
      have g0 := gi (l := l1) (n := 0) (by omega)
      obtain ⟨u, hu⟩ : ∃ u, l1.getD 0 0 = u := ⟨_, rfl⟩
      rw [hu] at g0
      simp only
      rw [hu]
      clear hJ1 hj hjo hJ hu
      repeat' (first | simp (maxDischargeDepth := 9) -implicitDefEqProofs -dsimp only [go_sem, seval, gt_iff_lt, *] | simp (disch := omega) only [wrap64] | ((with_reducible refine Zv ?_ ?_); focus (first | omega | exact rfl)) | ((with_reducible refine Zu ?_ ?_); focus omega) | ((with_reducible refine Zt (fun oF hoF hnF hnF' => ?_)); (try simp only [upd_none, ne_eq, not_and] at hoF)))
      refine fin_eq ?_
      (repeat' (first | simp (maxDischargeDepth := 9) -implicitDefEqProofs -dsimp only [go_sem, seval, *] | simp (disch := omega) only [wrap64])) <;> (repeat' refine And.intro ?_ ?_) <;> (first | omega | rfl | assumption | skip)
end Go.Proofs.Ytapnlmhfacoceaa

