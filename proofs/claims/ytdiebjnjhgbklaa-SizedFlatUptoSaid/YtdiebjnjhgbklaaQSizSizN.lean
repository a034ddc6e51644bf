/- sized: contracts: the document's expressions, sized. -/
import Derived.Test.YtdiebjnjhgbklaaQSzRun
set_option linter.unusedSimpArgs false
set_option linter.unusedVariables false
namespace Go.Proofs.Ytdiebjnjhgbklaa
open Abs Fil Fil.Sz
abbrev zN : List AV := [.int .i64 0, .int .i64 0, .int .u64 0, .int .i64 0, .int .i64 0, .int .i64 0, .int .i64 0, .slice [] .nil]
def rowT (X : List E) (k : Nat) : List AV := flat (X.map encE) ++ (List.replicate k zN).flatten
theorem rowT_put (X : List E) (x : E) (k : Nat) : List.take (X.length * 8) (rowT X (k + 1)) ++ eL x ++ List.drop (X.length * 8 + 8) (rowT X (k + 1)) = rowT (X ++ [x]) k := by
 have hl : (flat (X.map encE)).length = X.length * 8 := flat_map_len encE 8 (fun _ => rfl) X
 unfold rowT
 rw [List.replicate_succ, List.flatten_cons]
 have e1 : List.take (X.length * 8) (flat (X.map encE) ++ (zN ++ (List.replicate k zN).flatten)) = flat (X.map encE) := by rw [← hl]; simp
 have e2 : List.drop (X.length * 8 + 8) (flat (X.map encE) ++ (zN ++ (List.replicate k zN).flatten)) = (List.replicate k zN).flatten := by
  rw [← hl, ← List.drop_drop, List.drop_left]; rfl
 rw [e1, e2, List.map_append, flat_append]
 simp only [List.append_assoc]
 rfl
theorem rowT_zero (n : Nat) : rowT [] n = (List.replicate n zN).flatten := rfl
theorem rowT_all (X : List E) : rowT X 0 = flat (X.map encE) := by simp [rowT]
theorem rowT_len (X : List E) (k : Nat) : (rowT X k).length = (X.length + k) * 8 := by
 have hl : (flat (X.map encE)).length = X.length * 8 := flat_map_len encE 8 (fun _ => rfl) X
 have h2 : ∀ k, ((List.replicate k zN).flatten).length = k * 8 := fun k => by
  induction k with
  | zero => rfl
  | succ k ih => rw [List.replicate_succ, List.flatten_cons, List.length_append, ih, Nat.succ_mul]; simp; omega
 unfold rowT
 rw [List.length_append, hl, h2]; omega
theorem unflat_e : ∀ (X : List E), unflat true 8 X.length (flat (X.map encE)) = some (X.map encE)
 | [] => rfl
 | x :: X => by
  have ih := unflat_e X
  simp only [List.length_cons, List.map_cons, flat_cons, unflat]
  have e1 : List.take 8 (cellsA (encE x) ++ flat (X.map encE)) = eL x := rfl
  have e2 : List.drop 8 (cellsA (encE x) ++ flat (X.map encE)) = flat (X.map encE) := rfl
  rw [e1, e2, ih]
  rfl
theorem encE_zero : encE zE = .agg [.int .i64 0, .int .i64 0, .int .u64 0, .int .i64 0, .int .i64 0, .int .i64 0, .int .i64 0, .slice [] .no] := by
 have e : encEs zE = [] := by rw [encEs_eq]; rfl
 simp only [encE, eL, e]; rfl
theorem encE_num (w v : Int) : encE (.mk 1 w v 0 0 0 0 []) = .agg [.int .i64 1, .int .i64 w, .int .u64 v, .int .i64 0, .int .i64 0, .int .i64 0, .int .i64 0, .slice [] .no] := by
 have e : encEs (.mk 1 w v 0 0 0 0 []) = [] := by rw [encEs_eq]; rfl
 simp only [encE, eL, e]; rfl
theorem encE_set (e : E) (w : Int) (X : List E) : encE (e.set w X) = .agg [.int .i64 e.op, .int .i64 w, .int .u64 e.v, .int .i64 e.sig, .int .i64 e.hi, .int .i64 e.lo, .int .i64 e.n, .slice (X.map encE) .no] := by
 have h : encEs (e.set w X) = X.map encE := by rw [encEs_eq]; rfl
 simp only [encE, eL, h]; rfl
set_option maxRecDepth 20000 in
set_option maxHeartbeats 2000000 in
theorem sz_size (g : List Sg) (hg : SgOk g) (e : E) : ∀ (w : Int) (σ : Sig), shp g e = true → nodes e ≤ 16777216 → WfE e → -1 ≤ w → ACalls Try.prog 39 [encE e, .int .i64 w] σ (fun r σ' => r = .ret (.tup [encE (size e w).1, .int .i64 (size e w).2]) ∧ σ' = σ) := by
 refine E.ind (P := fun e => ∀ (w : Int) (σ : Sig), shp g e = true → nodes e ≤ 16777216 → WfE e → -1 ≤ w → ACalls Try.prog 39 [encE e, .int .i64 w] σ (fun r σ' => r = .ret (.tup [encE (size e w).1, .int .i64 (size e w).2]) ∧ σ' = σ)) (fun e ih w σ hs he hw h0 => ?_) e
 have h1 := encEs_eq e
 have l1 := len_nodes e
 have hown := fun τ => sz_own g hg e τ hs he
 have hwp := wide_pos (own_nonneg hg e hs) h0
 have ht1 := fun τ => sz_told (own e) 32 τ
 have ht2 := fun w τ => sz_told w (told (own e) 32) τ
 have hwd : wide e w = told (if w = -1 then 1 else w) (told (own e) 32) := rfl
 have hwant := fun τ => sz_wanted g hg e (wide e w) τ hs he
 have hv64 := ((WfE_iff e).1 hw).1.2.2.1
 have hh := fun τ h => sz_holds (wide e w) e.v τ h hv64
 have hsub := fun (x : E) (hx : x ∈ e.l) w τ h => ih x hx w τ (shp_part hs hx) (by have := part_nodes hx; omega) (((WfE_iff e).1 hw).2 x hx) h
 clear ih hw
 refine calls_x mixed Try.func39 b39 n39 rfl q39 (by simp) ?_; unfold c39 r39
 by_cases hbit : w = -1 ∧ 1 < own e
 ·obtain ⟨rfl, hb⟩ := hbit
  rw [size_bit hb, encE_zero]
  clear hsub hh hwant ht1 ht2
  repeat' (first | simp (maxDischargeDepth := 9) -implicitDefEqProofs -dsimp only [go_sem, seval, gt_iff_lt, *] | simp (disch := omega) only [wrap64] | ((with_reducible refine Zt (fun oF hoF hnF hnF' => ?_)); (try simp only [upd_none, ne_eq, not_and] at hoF)) | ((with_reducible apply ACalls.one1); (focus ((with_reducible refine ACalls.flA (hown _) ?_) <;> (first | (simp (maxDischargeDepth := 9) -implicitDefEqProofs -dsimp only [go_sem, seval, *]; done) | omega))); (focus (first | trivial | with_reducible exact rfl | (simp (maxDischargeDepth := 9) -implicitDefEqProofs -dsimp only [go_sem, seval]; done)))))
  refine fin_eq ?_
  (repeat' simp (maxDischargeDepth := 9) -implicitDefEqProofs -dsimp only [go_sem, seval, *])
 -- the width
 have hhead : ∃ w', w' = (if w = -1 then 1 else w) := ⟨_, rfl⟩
 obtain ⟨w', hw'⟩ := hhead
 rw [← hw'] at hwd
 obtain ⟨W, hW⟩ : ∃ W, wide e w = W := ⟨_, rfl⟩
 obtain ⟨o, ho⟩ : ∃ o, own e = o := ⟨_, rfl⟩
 obtain ⟨t1, ht1'⟩ : ∃ t, told o 32 = t := ⟨_, rfl⟩
 rw [ho, ht1', hW] at hwd
 rw [ho] at hown
 rw [ho, ht1'] at ht1 ht2
 have hw2 : told w' t1 = W := hwd.symm
 have hcase : (w = -1 ∧ w' = 1 ∧ ¬ 1 < o) ∨ ((w == -1) = false ∧ w' = w) := by
  by_cases hm1 : w = -1
  ·exact .inl ⟨hm1, by rw [hw', if_pos hm1], fun h => hbit ⟨hm1, by rw [ho]; exact h⟩⟩
  ·exact .inr ⟨by simp [hm1], by rw [hw', if_neg hm1]⟩
 rw [hW] at hh hwant hwp
 clear hw' hwd ht1'
 by_cases hnum : e.op = 1 ∧ e.w = 0
 ·rw [size_num hbit hnum.1 hnum.2, hW]
  obtain ⟨n1, n2⟩ := hnum
  obtain ⟨b, hb⟩ : ∃ b, holds W e.v = b := ⟨_, rfl⟩
  rw [hb] at hh ⊢
  clear hsub hwant hb hbit hW ho
  cases b
  ·rw [if_neg (by simp), encE_zero]
   rcases hcase with ⟨rfl, rfl, h3⟩ | ⟨h3, rfl⟩
   all_goals
    repeat' (first | simp (maxDischargeDepth := 9) -implicitDefEqProofs -dsimp only [go_sem, seval, gt_iff_lt, *] | simp (disch := omega) only [wrap64] | ((with_reducible refine Zt (fun oF hoF hnF hnF' => ?_)); (try simp only [upd_none, ne_eq, not_and] at hoF)) | ((with_reducible apply ACalls.one1); (focus ((first | with_reducible refine ht1 _ | with_reducible refine ht2 _ _ | with_reducible refine hh _ ?_ | with_reducible refine ACalls.flA (hown _) ?_) <;> (first | (simp (maxDischargeDepth := 9) -implicitDefEqProofs -dsimp only [go_sem, seval, *]; done) | omega))); (focus (first | trivial | with_reducible exact rfl | (simp (maxDischargeDepth := 9) -implicitDefEqProofs -dsimp only [go_sem, seval]; done)))))
    refine fin_eq ?_
    (repeat' simp (maxDischargeDepth := 9) -implicitDefEqProofs -dsimp only [go_sem, seval, *])
  ·rw [if_pos rfl, encE_num]
   rcases hcase with ⟨rfl, rfl, h3⟩ | ⟨h3, rfl⟩
   all_goals
    repeat' (first | simp (maxDischargeDepth := 9) -implicitDefEqProofs -dsimp only [go_sem, seval, gt_iff_lt, *] | simp (disch := omega) only [wrap64] | ((with_reducible refine Zt (fun oF hoF hnF hnF' => ?_)); (try simp only [upd_none, ne_eq, not_and] at hoF)) | ((with_reducible apply ACalls.one1); (focus ((first | with_reducible refine ht1 _ | with_reducible refine ht2 _ _ | with_reducible refine hh _ ?_ | with_reducible refine ACalls.flA (hown _) ?_) <;> (first | (simp (maxDischargeDepth := 9) -implicitDefEqProofs -dsimp only [go_sem, seval, *]; done) | omega))); (focus (first | trivial | with_reducible exact rfl | (simp (maxDischargeDepth := 9) -implicitDefEqProofs -dsimp only [go_sem, seval]; done)))))
    refine fin_eq ?_
    (repeat' simp (maxDischargeDepth := 9) -implicitDefEqProofs -dsimp only [go_sem, seval, *])
 ·have hp : ((e.op == 1) = true ∧ (e.w == 0) = false) ∨ (e.op == 1) = false := by
   by_cases h : e.op = 1
   ·exact .inl ⟨by simp [h], by simp; omega⟩
   ·exact .inr (by simp [h])
  cases hws : wants e W with
  | none =>
   rw [size_none hbit hnum (by rw [hW]; exact hws), encE_zero]
   rw [hws] at hwant
   have vn : wantV none = .tup [.slice [] .no, .int .i64 90] := rfl
   rw [vn] at hwant
   clear hsub hh hbit hW ho hws vn hnum
   rcases hp with ⟨p1, p2⟩ | p1 <;> rcases hcase with ⟨rfl, rfl, h3⟩ | ⟨h3, rfl⟩
   all_goals
    repeat' (first | simp (maxDischargeDepth := 9) -implicitDefEqProofs -dsimp only [go_sem, seval, gt_iff_lt, *] | simp (disch := omega) only [wrap64] | ((with_reducible refine Zt (fun oF hoF hnF hnF' => ?_)); (try simp only [upd_none, ne_eq, not_and] at hoF)) | ((with_reducible apply ACalls.one1); (focus ((first | with_reducible refine ht1 _ | with_reducible refine ht2 _ _ | with_reducible refine ACalls.flA (hown _) ?_ | with_reducible refine ACalls.flA (hwant _) ?_) <;> (first | (simp (maxDischargeDepth := 9) -implicitDefEqProofs -dsimp only [go_sem, seval, *]; done) | omega))); (focus (first | trivial | with_reducible exact rfl | (simp (maxDischargeDepth := 9) -implicitDefEqProofs -dsimp only [go_sem, seval]; done)))))
    refine fin_eq ?_
    (repeat' simp (maxDischargeDepth := 9) -implicitDefEqProofs -dsimp only [go_sem, seval, *])
  | some ws =>
   have hsz := size_some hbit hnum (by rw [hW]; exact hws)
   have hwt := wants_wt hs hws
   have hwl := wt_len hs hwt
   have hge := wt_ge hg hs hwp hwt
   rw [hws] at hwant
   have vs : wantV (some ws) = .tup [.slice (ws.map encInt) .no, .int .i64 0] := rfl
   rw [vs] at hwant
   have hext1 : e.op = 8 → e.l.length = 1 := fun h => by
    cases shp_nd hs <;> first | omega | skip
    rename_i hl _ _ _ _; rw [hl]; rfl
   have kE : ∀ i, (h1 : i < e.l.length) → (h2 : i < ws.length) → (∀ j, (h3 : j < e.l.length) → (h4 : j < ws.length) → j < i → (size e.l[j] ws[j]).2 = 0) → (size e.l[i] ws[i]).2 ≠ 0 → size e w = (zE, (size e.l[i] ws[i]).2) := fun i h1 h2 h3 h4 => by
    rw [hsz, runL_err h1 h2 (fun j hj => h3 j (by omega) (by omega) hj) h4, sizeK, if_pos h4]
   have kA := fun h => runL_all (l := e.l) (ws := ws) hwl h
   have kO : (∀ j, (h3 : j < e.l.length) → (h4 : j < ws.length) → (size e.l[j] ws[j]).2 = 0) → ¬ (e.op = 8 ∧ (e.n = 33 ∧ part0 (resTo e.l ws e.l.length) < W ∨ e.n ≠ 33 ∧ W < part0 (resTo e.l ws e.l.length))) → size e w = (e.set W (resTo e.l ws e.l.length), 0) := fun h h2 => by
    rw [hsz, kA h, sizeK, if_neg (by simp), hW, if_neg h2]
   have kB : (∀ j, (h3 : j < e.l.length) → (h4 : j < ws.length) → (size e.l[j] ws[j]).2 = 0) → (e.op = 8 ∧ (e.n = 33 ∧ part0 (resTo e.l ws e.l.length) < W ∨ e.n ≠ 33 ∧ W < part0 (resTo e.l ws e.l.length))) → size e w = (zE, 90) := fun h h2 => by
    rw [hsz, kA h, sizeK, if_neg (by simp), hW, if_pos h2]
   have kr := fun i hi => resTo_len (l := e.l) (ws := ws) hwl (i := i) hi
   have ks := fun i h1 h2 => resTo_succ (l := e.l) (ws := ws) (i := i) h1 h2
   obtain ⟨R, hR⟩ : ∃ R, size e w = R := ⟨_, rfl⟩
   rw [hR] at kE kO kB ⊢
   have hn1 : e.l.length ≤ 16777216 := by omega
   have hrz := rowT_zero e.l.length
   clear hh hbit hws vs hnum hwt he hs ho hR hsz kA hW
   rcases hp with ⟨p1, p2⟩ | p1 <;> rcases hcase with ⟨rfl, rfl, h3⟩ | ⟨h3, rfl⟩
   all_goals
    repeat' (first | simp (maxDischargeDepth := 9) -implicitDefEqProofs -dsimp only [go_sem, seval, *] | ((with_reducible refine Zt (fun oF hoF hnF hnF' => ?_)); (try simp only [upd_none, ne_eq, not_and] at hoF)))
    rename_i o2 ho2 nx1 nx2
    obtain ⟨o4, e4⟩ : ∃ x, x = oF := ⟨oF, rfl⟩
    subst e4
    obtain ⟨a1, ho4⟩ := hoF
    have a2 : ¬ o2 = o4 := fun e => a1 e.symm
    clear nx1 nx2 hnF hnF'
    repeat' (first | simp (maxDischargeDepth := 9) -implicitDefEqProofs -dsimp only [go_sem, seval, gt_iff_lt, *] | ((with_reducible refine Zv ?_ ?_); focus (first | omega | exact rfl)) | ((with_reducible refine Zt (fun oF hoF hnF hnF' => ?_)); (try simp only [upd_none, ne_eq, not_and] at hoF)) | ((with_reducible apply ACalls.one1); (focus ((first | with_reducible refine ht1 _ | with_reducible refine ht2 _ _ | with_reducible refine ACalls.flA (hown _) ?_ | with_reducible refine ACalls.flA (hwant _) ?_) <;> (first | (simp (maxDischargeDepth := 9) -implicitDefEqProofs -dsimp only [go_sem, seval, *]; done) | omega))); (focus (first | trivial | with_reducible exact rfl | (simp (maxDischargeDepth := 9) -implicitDefEqProofs -dsimp only [go_sem, seval]; done)))))
    obtain ⟨o8, e8⟩ : ∃ x, x = oF := ⟨oF, rfl⟩
    subst e8
    obtain ⟨a3, a4, ho8⟩ := hoF
    have a5 : ¬ o4 = o8 := fun e => a3 e.symm
    have a6 : ¬ o2 = o8 := fun e => a4 e.symm
    clear hnF hnF' hown ht1 ht2 hwant h3 hw2
    refine loop_rule (fun i : Nat => [(59, some (.int .i64 i)), (58, some (.int .i64 e.l.length)), (57, some (.slice (e.l.map encE) .no)), (6, some (.slice (ws.map encInt) .no)), (4, some (.ptr o4 0)), (8, some (.vec o8 e.l.length)), (2, some (.ptr o2 0)), (1, some (.int .i64 W))])
     (fun i => upd (upd (upd σ o2 (.cells [.int .i64 e.op, .int .i64 e.w, .int .u64 e.v, .int .i64 e.sig, .int .i64 e.hi, .int .i64 e.lo, .int .i64 e.n, .slice (e.l.map encE) .no])) o4 (.cells zN)) o8 (.vec 8 e.l.length (rowT (resTo e.l ws i) (e.l.length - i))))
     (fun i => i ≤ e.l.length ∧ ∀ j, (h3 : j < e.l.length) → (h4 : j < ws.length) → j < i → (size e.l[j] ws[j]).2 = 0) (fun i => e.l.length - i) 0 ?_ ?_
    ·have e0 : resTo e.l ws 0 = [] := by simp [resTo]
     clear kE kO kB kr ks hge hext1 hsub
     (repeat' simp (maxDischargeDepth := 9) -implicitDefEqProofs -dsimp only [go_sem, seval, Nat.sub_zero, *]) <;> (repeat' refine And.intro ?_ ?_) <;> (first | omega | skip)
    ·rintro i ⟨hi, hok⟩
     by_cases hlt : i < e.l.length
     ·have hlt2 : i < ws.length := by omega
      have hc := fun τ => hsub e.l[i] (List.getElem_mem hlt) ws[i] τ (hge _ (List.getElem_mem hlt2))
      have kEi := kE i hlt hlt2 hok
      have ksi := ks i hlt hlt2
      have kri := kr i (by omega)
      have hstep : (size e.l[i] ws[i]).2 = 0 → ∀ j, (h3 : j < e.l.length) → (h4 : j < ws.length) → j < i + 1 → (size e.l[j] ws[j]).2 = 0 := fun h j h3 h4 h5 => by
       rcases Nat.lt_or_ge j i with q | q
       ·exact hok j h3 h4 q
       ·obtain rfl : j = i := by omega
        exact h
      obtain ⟨⟨x, f⟩, hxf⟩ : ∃ r, size e.l[i] ws[i] = r := ⟨_, rfl⟩
      rw [hxf] at hc kEi ksi hstep
      simp only at hc kEi ksi hstep
      clear kE kO kB kr ks hge hext1 hsub hok hxf
      obtain ⟨k, hk⟩ : ∃ k, e.l.length - i = k + 1 := ⟨e.l.length - i - 1, by omega⟩
      have hk2 : e.l.length - (i + 1) = k := by omega
      have hput := rowT_put (resTo e.l ws i) x k
      rw [kri, ← ksi] at hput
      obtain ⟨X, hX⟩ : ∃ X, resTo e.l ws i = X := ⟨_, rfl⟩
      rw [hX] at kri ksi hput ⊢
      rw [hk]
      by_cases hf : f = 0
      ·subst hf
       have hn := hstep rfl
       have hrl : i * 8 + 8 ≤ (rowT X (k + 1)).length := by rw [rowT_len]; omega
       clear kEi hstep hX
       repeat' (first | simp (maxDischargeDepth := 9) -implicitDefEqProofs -dsimp only [go_sem, seval, *] | simp (disch := omega) only [wrap64] | ((with_reducible refine Zu ?_ ?_); focus omega) | ((with_reducible refine Zt (fun oF hoF hnF hnF' => ?_)); (try simp only [upd_none, ne_eq, not_and] at hoF)) | ((with_reducible apply id_one0); (focus (intro tS hS; ((with_reducible refine hc _) <;> (first | (simp (maxDischargeDepth := 9) -implicitDefEqProofs -dsimp only [go_sem, seval, *]; done) | omega | ((with_reducible refine Sub.get hS ?_); simp (maxDischargeDepth := 9) -implicitDefEqProofs -dsimp only [go_sem, seval, *]; done))))); (focus (first | trivial | (simp (maxDischargeDepth := 9) -implicitDefEqProofs -dsimp only [go_sem, seval, *]; done)))))
       refine loop_next _ _ _ _ (i + 1) ?_; (repeat' simp (maxDischargeDepth := 9) -implicitDefEqProofs -dsimp only [go_sem, seval, *]) <;> (repeat' refine And.intro ?_ ?_) <;> (first | omega | skip)
       exact fun j h3 h4 h5 => hn j h3 (by omega) h5
      ·have hfb : (f != 0) = true := by simpa using hf
       have hv := kEi hf
       clear kEi hstep hX hf
       rw [hv, encE_zero]
       repeat' (first | simp (maxDischargeDepth := 9) -implicitDefEqProofs -dsimp only [go_sem, seval, *] | simp (disch := omega) only [wrap64] | ((with_reducible refine Zu ?_ ?_); focus omega) | ((with_reducible refine Zt (fun oF hoF hnF hnF' => ?_)); (try simp only [upd_none, ne_eq, not_and] at hoF)) | ((with_reducible apply id_one0); (focus (intro tS hS; ((with_reducible refine hc _) <;> (first | (simp (maxDischargeDepth := 9) -implicitDefEqProofs -dsimp only [go_sem, seval, *]; done) | omega | ((with_reducible refine Sub.get hS ?_); simp (maxDischargeDepth := 9) -implicitDefEqProofs -dsimp only [go_sem, seval, *]; done))))); (focus (first | trivial | (simp (maxDischargeDepth := 9) -implicitDefEqProofs -dsimp only [go_sem, seval, *]; done)))))
       refine fin_eq ?_
       (repeat' simp (maxDischargeDepth := 9) -implicitDefEqProofs -dsimp only [go_sem, seval, *])
     ·have ei : i = e.l.length := by omega
      subst ei
      have hall := fun j h3 h4 => hok j h3 h4 h3
      have kO' := kO hall
      have kB' := kB hall
      have hXl := kr e.l.length (Nat.le_refl _)
      obtain ⟨X, hX⟩ : ∃ X, resTo e.l ws e.l.length = X := ⟨_, rfl⟩
      rw [hX] at kO' kB' hXl ⊢
      rw [Nat.sub_self, rowT_all]
      have hun := unflat_e X
      rw [hXl] at hun
      clear kE kO kB kr ks hge hsub hok hall hX hrz
      by_cases h8 : e.op = 8
      ·have hl1 := hext1 h8
       rw [hl1] at hXl
       obtain ⟨x, rfl⟩ := len1 hXl
       have hfx : flat ([x].map encE) = eL x := rfl
       have hpx : part0 [x] = x.w := rfl
       have hmx : [x].map encE = [encE x] := rfl
       rw [hfx, hmx, hl1] at hun
       rw [hfx]
       rw [hpx] at kO' kB'
       clear hext1 hfx hpx hXl
       by_cases hbad : e.n = 33 ∧ x.w < W ∨ e.n ≠ 33 ∧ W < x.w
       ·rw [kB' ⟨h8, hbad⟩, encE_zero]
        clear kO' kB'
        repeat' (first | simp (maxDischargeDepth := 9) -implicitDefEqProofs -dsimp only [go_sem, seval, gt_iff_lt, *] | simp (disch := omega) only [wrap64] | (with_reducible (first | apply Zb | apply Zc | apply Zd | apply Zg) <;> intro hq) | ((with_reducible refine Zv ?_ ?_); focus (first | omega | exact rfl)))
        all_goals first | (exfalso; omega) | skip
        all_goals
         refine fin_eq ?_
         (repeat' simp (maxDischargeDepth := 9) -implicitDefEqProofs -dsimp only [go_sem, seval, *])
       ·rw [kO' fun h => hbad h.2, encE_set, hmx]
        clear kO' kB'
        repeat' (first | simp (maxDischargeDepth := 9) -implicitDefEqProofs -dsimp only [go_sem, seval, gt_iff_lt, imp_self, *] | simp (disch := omega) only [wrap64] | (with_reducible (first | apply Zb | apply Zc | apply Zd | apply Zg) <;> intro hq))
        all_goals first | (exfalso; omega) | skip
        all_goals
         refine fin_eq ?_
         (repeat' simp (maxDischargeDepth := 9) -implicitDefEqProofs -dsimp only [go_sem, seval, *])
      ·have hb8 : (e.op == 8) = false := by simp [h8]
       rw [kO' fun h => h8 h.1, encE_set]
       clear kO' kB' hext1
       repeat' (first | simp (maxDischargeDepth := 9) -implicitDefEqProofs -dsimp only [go_sem, seval, imp_self, *] | simp (disch := omega) only [wrap64])
       refine fin_eq ?_
       (repeat' simp (maxDischargeDepth := 9) -implicitDefEqProofs -dsimp only [go_sem, seval, *])
end Go.Proofs.Ytdiebjnjhgbklaa

namespace Fil.Sz
open Abs
structure Ok (g : List Sg) (e : E) (w : Int) (x : E) : Prop where
 set : x = e.set (wide e w) x.l
 len : x.l.length = e.l.length
 own : own x = wide e w
 pos : 1 ≤ wide e w
 few : 0 < Sz.own e → wide e w ≤ 64
 shp : w ≤ 64 → wide e w ≤ 64 ∧ shp g x = true
 nodes : nodes x = nodes e
 deep : deep x = deep e
 again : ∀ w', ¬ (w' = -1 ∧ 1 < Sz.own x) → wide x w' = wide e w → size x w' = (x, 0)
theorem Ok.wd {g : List Sg} {e : E} {w : Int} {x : E} (h : Ok g e w x) : x.w = wide e w := by rw [h.set]; rfl
theorem Ok.op {g : List Sg} {e : E} {w : Int} {x : E} (h : Ok g e w x) : x.op = e.op := by rw [h.set]; rfl
theorem Ok.n {g : List Sg} {e : E} {w : Int} {x : E} (h : Ok g e w x) : x.n = e.n := by rw [h.set]; rfl
theorem Ok.wide_eq {g : List Sg} {e : E} {w : Int} {x : E} (h : Ok g e w x) : wide x w = wide e w := by
 by_cases h1 : w = -1
 ·subst h1; rw [wide_bit, wide_bit]
 ·by_cases h2 : w = 0
  ·subst h2
   have h3 := h.own
   have h4 := h.pos
   rw [wide_zero x, told, if_neg (by omega), h3]
  ·rw [wide_of h2 h1, wide_of h2 h1]
theorem Ok.same {g : List Sg} {e : E} {w : Int} {x : E} (h : Ok g e w x) : size x w = (x, 0) := by
 refine h.again w (fun ⟨h1, h2⟩ => ?_) h.wide_eq
 subst h1
 rw [h.own, wide_bit] at h2
 omega
theorem set_l (e : E) (w : Int) (l : List E) : (e.set w l).l = l := rfl
theorem set_op (e : E) (w : Int) (l : List E) : (e.set w l).op = e.op := rfl
theorem set_w (e : E) (w : Int) (l : List E) : (e.set w l).w = w := rfl
theorem set_n (e : E) (w : Int) (l : List E) : (e.set w l).n = e.n := rfl
theorem set_hi (e : E) (w : Int) (l : List E) : (e.set w l).hi = e.hi := rfl
theorem set_lo (e : E) (w : Int) (l : List E) : (e.set w l).lo = e.lo := rfl
theorem set_v (e : E) (w : Int) (l : List E) : (e.set w l).v = e.v := rfl
theorem set_sig (e : E) (w : Int) (l : List E) : (e.set w l).sig = e.sig := rfl
theorem set_set (e : E) (w v : Int) (l m : List E) : (e.set w l).set v m = e.set v m := rfl
theorem node_set {g : List Sg} {e : E} (h : node g e = true) {w : Int} {l : List E} (hl : l.length = e.l.length) (hw : 1 ≤ w ∧ w ≤ 64) (h1 : e.op = 1 → holds w e.v = true) : node g (e.set w l) = true := by
 unfold node at h ⊢
 simp only [set_op, set_w, set_n, set_hi, set_lo, set_v, set_sig, set_l, hl]
 split at h
 ·rename_i ho
  simp only [Bool.and_eq_true, decide_eq_true_eq] at h
  rw [if_pos ho]
  simp only [Bool.and_eq_true, decide_eq_true_eq, Bool.or_eq_true]
  exact ⟨⟨h.1.1, h.1.2.1, h.1.2.2.1, h.1.2.2.2.1, h.1.2.2.2.2.1, by omega, by omega⟩, .inr (h1 ho)⟩
 rename_i q1
 rw [if_neg q1]
 split at h
 ·rename_i ho; rw [if_pos ho]; exact h
 rename_i q2
 rw [if_neg q2]
 split at h
 ·rename_i ho; rw [if_pos ho]; exact h
 rename_i q3
 rw [if_neg q3]
 split at h
 ·rename_i ho; rw [if_pos ho]; exact h
 rename_i q4
 rw [if_neg q4]
 split at h
 ·rename_i ho; rw [if_pos ho]; exact h
 rename_i q5
 rw [if_neg q5]
 split at h
 ·rename_i ho; rw [if_pos ho]; exact h
 rename_i q6
 rw [if_neg q6]
 split at h
 ·rename_i ho; rw [if_pos ho]; exact h
 rename_i q7
 rw [if_neg q7]
 split at h
 ·rename_i ho
  rw [if_pos ho]
  simp only [decide_eq_true_eq] at h ⊢
  exact ⟨h.1, h.2.1, h.2.2.1, h.2.2.2.1, h.2.2.2.2.1, h.2.2.2.2.2.1, h.2.2.2.2.2.2.1, hw.1, hw.2⟩
 ·simp at h
theorem map_eq_of {α β γ : Type} {f : α → γ} {h : β → γ} : ∀ {l : List α} {m : List β}, l.length = m.length → (∀ i, (h1 : i < l.length) → (h2 : i < m.length) → f l[i] = h m[i]) → l.map f = m.map h
 | [], [], _, _ => rfl
 | a :: l, b :: m, hl, hh => by
  have h0 := hh 0 (by simp) (by simp)
  simp only [List.getElem_cons_zero] at h0
  rw [List.map_cons, List.map_cons, h0, map_eq_of (l := l) (m := m) (by simpa using hl) fun i h1 h2 => by
   have := hh (i + 1) (by simpa using h1) (by simpa using h2)
   simpa using this]
theorem cat_own {l : List Int} (h : cat0 l ≠ 0) : ∀ a ∈ l, a ≠ 0 := fun a ha e => h (by unfold cat0; rw [if_pos (e ▸ ha)])
def Pts (g : List Sg) (e : E) (ws : List Int) (xs : List E) : Prop := ∀ i, (h1 : i < e.l.length) → (h2 : i < ws.length) → (h3 : i < xs.length) → Ok g e.l[i] ws[i] xs[i]
theorem rep_get {α : Type} {n i : Nat} {a : α} (h : i < (List.replicate n a).length) : (List.replicate n a)[i] = a := by simp
theorem own_parts {g : List Sg} (hg : SgOk g) {e : E} (hs : shp g e = true) {W : Int} (hW : 1 ≤ W) {ws : List Int} {xs : List E} (hw : Wt e W ws) (hl : xs.length = e.l.length) (hp : Pts g e ws xs) (he : e.op = 1 → own e = W) : own (e.set W xs) = W := by
 have hwl := wt_len hs hw
 have hon : ∀ x ∈ e.l, 0 ≤ own x := fun x hx => own_nonneg hg x (shp_part hs hx)
 cases shp_nd hs with
 | num ho => rw [own1 (by exact ho)]; rfl
 | ext ho => rw [own8 (by exact ho)]; rfl
 | sig ho =>
  rw [own2 (by exact ho)]
  cases hw <;> first | omega | skip
  rename_i h1 h2
  rw [own2 ho] at h2; exact h2
 | idx ho =>
  rw [own3 (by exact ho)]
  cases hw <;> first | omega | skip
  rename_i h1 h2
  rw [own3 ho] at h2; exact h2
 | cat ho =>
  rw [own7 (by exact ho), set_l]
  cases hw <;> first | omega | skip
  rename_i h1 h2 h3 h4
  rw [own7 ho] at h2 h3
  have : xs.map own = e.l.map own := map_eq_of hl fun i q1 q2 => by
   have ok := hp i q2 (by simpa using q2) q1
   have h5 := ok.own
   rw [rep_get, wide_zero, told, if_neg (cat_own h2 _ (List.mem_map_of_mem (List.getElem_mem q2)))] at h5
   exact h5
  rw [this]; exact h3
 | cond ho _ _ _ _ _ a b c h6 =>
  rw [own6 (by exact ho), set_l]
  cases hw <;> first | omega | skip
  obtain ⟨x, y, z, rfl⟩ := len3 (show xs.length = 3 by rw [hl, h6]; rfl)
  have ok := hp 1 (by rw [h6]; simp) (by simp) (by simp)
  have h5 := ok.own
  simp only [List.getElem_cons_succ, List.getElem_cons_zero] at h5
  rw [wide_of (by omega) (by omega)] at h5
  simp [fst0, h5]; omega
 | un ho _ _ _ _ a h6 h7 h8 =>
  rw [own4 (by exact ho), set_n, set_l]
  obtain ⟨x, rfl⟩ := len1 (show xs.length = 1 by rw [hl, h6]; rfl)
  by_cases hn : e.n ≤ 2
  ·rw [if_pos hn]
   cases hw <;> first | omega | skip
   have ok := hp 0 (by rw [h6]; simp) (by simp [h6]) (by simp)
   have h5 := ok.own
   rw [rep_get, wide_of (by omega) (by omega)] at h5
   simpa using h5
  ·rw [if_neg hn]
   cases hw <;> omega
 | bin ho _ _ _ _ a b h6 h7 h8 =>
  rw [own5 (by exact ho), set_n, set_l]
  obtain ⟨x, y, rfl⟩ := len2 (show xs.length = 2 by rw [hl, h6]; rfl)
  by_cases hn : e.n ≤ 16
  ·rw [if_pos hn]
   cases hw <;> first | omega | skip
   have ok := hp 0 (by rw [h6]; simp) (by simp [h6]) (by simp)
   have h5 := ok.own
   rw [rep_get, wide_of (by omega) (by omega)] at h5
   simp only [List.getElem_cons_zero] at h5
   simp [fst0, h5]; omega
  ·rw [if_neg hn]
   by_cases hn2 : e.n ≤ 18
   ·rw [if_pos hn2]
    cases hw <;> first | omega | skip
    have ok := hp 0 (by rw [h6]; simp) (by simp) (by simp)
    have h5 := ok.own
    simp only [List.getElem_cons_zero] at h5
    rw [wide_of (by omega) (by omega)] at h5
    simpa using h5
   ·rw [if_neg hn2]
    cases hw <;> omega
theorem few_parts {g : List Sg} (hg : SgOk g) {e : E} (hs : shp g e = true) {W : Int} (hW : 1 ≤ W) {ws : List Int} {xs : List E} (hw : Wt e W ws) (hl : xs.length = e.l.length) (hp : Pts g e ws xs) (h0 : 0 < own e) : W ≤ 64 := by
 have hwl := wt_len hs hw
 have hon : ∀ x ∈ e.l, 0 ≤ own x := fun x hx => own_nonneg hg x (shp_part hs hx)
 cases shp_nd hs with
 | num ho _ _ _ _ _ _ h7 =>
  cases hw <;> first | omega | skip
  rename_i h1 h2
  rw [own1 ho] at h2; omega
 | ext ho _ _ _ _ _ _ _ _ _ h9 =>
  cases hw <;> first | omega | skip
  rename_i h1 h2
  rw [own8 ho] at h2; omega
 | sig ho _ _ _ h6 =>
  cases hw <;> first | omega | skip
  rename_i h1 h2
  have := place_bits hg h6
  rw [own2 ho] at h2; omega
 | idx ho =>
  cases hw <;> first | omega | skip
  rename_i h1 h2
  rw [own3 ho] at h2; omega
 | cat ho =>
  cases hw <;> first | omega | skip
 | cond ho _ _ _ _ _ a b c h6 =>
  rw [own6 ho] at h0
  cases hw <;> first | omega | skip
  have ok1 := hp 1 (by rw [h6]; simp) (by simp) (by rw [hl, h6]; simp)
  have ok2 := hp 2 (by rw [h6]; simp) (by simp) (by rw [hl, h6]; simp)
  have f1 := ok1.few
  have f2 := ok2.few
  simp only [List.getElem_cons_succ, List.getElem_cons_zero] at f1 f2
  rw [wide_of (by omega) (by omega)] at f1 f2
  have g1 := hon b (by rw [h6]; simp)
  have g2 := hon c (by rw [h6]; simp)
  simp only [h6, List.getElem_cons_succ, List.getElem_cons_zero] at f1 f2
  simp only [h6, List.map_cons, List.map_nil, List.drop_succ_cons, List.drop_zero, fst0] at h0
  by_cases q : own b = 0
  ·rw [if_pos q] at h0
   by_cases q2 : own c = 0
   ·rw [if_pos q2] at h0; omega
   ·exact f2 (by omega)
  ·exact f1 (by omega)
 | un ho _ _ _ _ a h6 h7 h8 =>
  rw [own4 ho] at h0
  by_cases hn : e.n ≤ 2
  ·rw [if_pos hn] at h0
   cases hw <;> first | omega | skip
   have ok := hp 0 (by rw [h6]; simp) (by simp [h6]) (by rw [hl, h6]; simp)
   have f1 := ok.few
   rw [rep_get, wide_of (by omega) (by omega)] at f1
   simp only [h6, List.getElem_cons_zero] at f1
   simp only [h6, List.map_cons, List.headD_cons] at h0
   exact f1 h0
  ·cases hw <;> omega
 | bin ho _ _ _ _ a b h6 h7 h8 =>
  rw [own5 ho] at h0
  by_cases hn : e.n ≤ 16
  ·rw [if_pos hn] at h0
   cases hw <;> first | omega | skip
   have ok1 := hp 0 (by rw [h6]; simp) (by simp [h6]) (by rw [hl, h6]; simp)
   have ok2 := hp 1 (by rw [h6]; simp) (by simp [h6]) (by rw [hl, h6]; simp)
   have f1 := ok1.few
   have f2 := ok2.few
   rw [rep_get, wide_of (by omega) (by omega)] at f1 f2
   have g1 := hon a (by rw [h6]; simp)
   have g2 := hon b (by rw [h6]; simp)
   simp only [h6, List.getElem_cons_succ, List.getElem_cons_zero] at f1 f2
   simp only [h6, List.map_cons, List.map_nil, fst0] at h0
   by_cases q : own a = 0
   ·rw [if_pos q] at h0
    by_cases q2 : own b = 0
    ·rw [if_pos q2] at h0; omega
    ·exact f2 (by omega)
   ·exact f1 (by omega)
  ·rw [if_neg hn] at h0
   by_cases hn2 : e.n ≤ 18
   ·rw [if_pos hn2] at h0
    cases hw <;> first | omega | skip
    have ok := hp 0 (by rw [h6]; simp) (by simp) (by rw [hl, h6]; simp)
    have f1 := ok.few
    simp only [List.getElem_cons_zero] at f1
    rw [wide_of (by omega) (by omega)] at f1
    simp only [h6, List.getElem_cons_zero] at f1
    simp only [h6, List.map_cons, List.headD_cons] at h0
    exact f1 h0
   ·cases hw <;> omega
theorem cmp_op {g : List Sg} {e : E} (hs : shp g e = true) (ho : e.op = 4 ∨ e.op = 5) (hn : 19 ≤ e.n) : ∃ a b, e.l = [a, b] := by
 cases shp_nd hs <;> first | omega | exact ⟨_, _, by assumption⟩
theorem wt_few {g : List Sg} (hg : SgOk g) {e : E} (hs : shp g e = true) {W : Int} (hW : 1 ≤ W) (hW2 : W ≤ 64) {ws : List Int} {xs : List E} (hw : Wt e W ws) (hl : xs.length = e.l.length) (hp : Pts g e ws xs) : ∀ v ∈ ws, v ≤ 64 := by
 intro v hv
 cases hw with
 | cond ho => simp at hv; omega
 | sh ho hn => simp at hv; omega
 | cmp ho hn hn2 h =>
  have hv := (List.mem_replicate.1 hv).2
  obtain ⟨a, b, h6⟩ := cmp_op hs ho hn
  by_cases hf : fst0 (e.l.map own) = 0
  ·rw [hf] at hv; simp [told] at hv; omega
  ·rw [told, if_neg hf] at hv
   have ok1 := hp 0 (by rw [h6]; simp) (by simp [h6]) (by rw [hl, h6]; simp)
   have ok2 := hp 1 (by rw [h6]; simp) (by simp [h6]) (by rw [hl, h6]; simp)
   have f1 := ok1.few
   have f2 := ok2.few
   have g1 := own_nonneg hg a (shp_part hs (by rw [h6]; simp))
   have g2 := own_nonneg hg b (shp_part hs (by rw [h6]; simp))
   rw [rep_get, told, if_neg hf, ← hv] at f1 f2
   simp only [h6, List.getElem_cons_succ, List.getElem_cons_zero] at f1 f2
   simp only [h6, List.map_cons, List.map_nil, fst0] at hf hv
   by_cases q : own a = 0
   ·rw [if_pos q] at hf hv
    by_cases q2 : own b = 0
    ·rw [if_pos q2] at hf; omega
    ·rw [if_neg q2] at hv
     rw [wide_of (by omega) (by omega)] at f2
     exact f2 (by omega)
   ·rw [if_neg q] at hv
    rw [wide_of (by omega) (by omega)] at f1
    exact f1 (by omega)
 | _ => have := (List.mem_replicate.1 hv).2; omega
theorem wt_set {g : List Sg} (hg : SgOk g) {e : E} (hs : shp g e = true) {W : Int} (hW : 1 ≤ W) {ws : List Int} {xs : List E} (hw : Wt e W ws) (hl : xs.length = e.l.length) (hp : Pts g e ws xs) (hown : own (e.set W xs) = W) : Wt (e.set W xs) W ws := by
 cases hw with
 | leaf ho h => 
  rw [← hl]; exact .leaf (e := e.set W xs) ho hown
 | cat ho h1 h2 h3 =>
  rw [← hl]; exact .cat (e := e.set W xs) ho (by omega) hown (by omega)
 | cond ho => exact .cond (e := e.set W xs) ho
 | bits ho hn h => rw [← hl]; exact .bits (e := e.set W xs) ho hn h
 | all ho hn h => rw [← hl]; exact .all (e := e.set W xs) ho hn h
 | cmp ho hn hn2 h =>
  have hk : told (fst0 (xs.map own)) 32 = told (fst0 (e.l.map own)) 32 := by
   obtain ⟨a, b, h6⟩ := cmp_op hs ho hn
   have hf0 : 0 ≤ fst0 (e.l.map own) := fst0_nonneg fun a ha => by
    obtain ⟨x, hx, rfl⟩ := List.mem_map.1 ha
    exact own_nonneg hg x (shp_part hs hx)
   obtain ⟨K, hK⟩ : ∃ K, told (fst0 (e.l.map own)) 32 = K := ⟨_, rfl⟩
   have hK1 : 1 ≤ K := by rw [← hK]; unfold told; split <;> omega
   rw [hK] at hp ⊢
   obtain ⟨x, y, rfl⟩ := len2 (show xs.length = 2 by rw [hl, h6]; rfl)
   have ok := hp 0 (by rw [h6]; simp) (by simp [h6]) (by simp)
   have h5 := ok.own
   rw [rep_get, wide_of (by omega) (by omega)] at h5
   simp only [List.getElem_cons_zero] at h5
   have hf : fst0 ([x, y].map own) = K := by simp [fst0, h5]; omega
   rw [hf, told, if_neg (by omega)]
  have := Wt.cmp (e := e.set W xs) (w := W) ho hn hn2 h
  rw [set_l, hl, hk] at this
  exact this
 | sh ho hn => exact .sh (e := e.set W xs) ho hn
 | ari ho hn hn2 hn3 hn4 => 
  have := Wt.ari (e := e.set W xs) (w := W) ho hn hn2 hn3 hn4
  rw [set_l, hl] at this
  exact this
theorem size_main {g : List Sg} (hg : SgOk g) (e : E) : ∀ (w : Int) (x : E), shp g e = true → -1 ≤ w → size e w = (x, 0) → Ok g e w x := by
 refine E.ind (P := fun e => ∀ (w : Int) (x : E), shp g e = true → -1 ≤ w → size e w = (x, 0) → Ok g e w x) (fun e ih w x hs h0 h => ?_) e
 obtain ⟨hbit, hc⟩ := size_ok h
 have hon := own_nonneg hg e hs
 have hpos := wide_pos hon h0
 obtain ⟨W, hW⟩ : ∃ W, wide e w = W := ⟨_, rfl⟩
 rw [hW] at hpos hc
 -- all but the node itself
 have key : ∀ (ws : List Int) (xs : List E), x = e.set W xs → xs.length = e.l.length → Pts g e ws xs → own x = W → (0 < own e → W ≤ 64) → (∀ v ∈ ws, W ≤ 64 → v ≤ 64) → ws.length = e.l.length →
   (e.op = 1 → holds W e.v = true) → Wt x W ws → ¬ (e.op = 8 ∧ (e.n = 33 ∧ part0 xs < W ∨ e.n ≠ 33 ∧ W < part0 xs)) → Ok g e w x := fun ws xs hx hl hp hown hfew hws hwl hh hwt hbad => by
  have hxl : x.l = xs := by rw [hx]; rfl
  refine ⟨by rw [hxl, hW]; exact hx, by rw [hxl]; exact hl, by rw [hW]; exact hown, by rw [hW]; exact hpos, fun h => by rw [hW]; exact hfew h, fun h64 => ?_, ?_, ?_, fun w' h1 h2 => ?_⟩
  ·have hW64 : W ≤ 64 := by
    by_cases q : w = -1
    ·rw [← hW, q, wide_bit]; omega
    ·by_cases q2 : w = 0
     ·by_cases q3 : own e = 0
      ·rw [← hW, q2, wide_zero, q3]; simp [told]
      ·exact hfew (by omega)
     ·rw [← hW, wide_of q2 q]; exact h64
   rw [hW]
   refine ⟨hW64, ?_⟩
   rw [shp_eq, Bool.and_eq_true]
   refine ⟨by rw [hx]; exact node_set (by rw [shp_eq, Bool.and_eq_true] at hs; exact hs.1) hl ⟨hpos, hW64⟩ hh, ?_⟩
   rw [List.all_eq_true]
   intro y hy
   rw [hxl] at hy
   obtain ⟨i, hi, rfl⟩ := List.getElem_of_mem hy
   have ok := hp i (by omega) (by omega) hi
   exact (ok.shp (hws _ (List.getElem_mem (by omega)) hW64)).2
  ·rw [nodes_eq x, nodes_eq e, hxl]
   rw [map_eq_of hl fun i q1 q2 => (hp i q2 (by omega) q1).nodes]
  ·rw [deep_eq x, deep_eq e, hxl]
   rw [map_eq_of hl fun i q1 q2 => (hp i q2 (by omega) q1).deep]
  ·rw [hW] at h2
   have hr : runL (x.l.map size) ws = (xs, 0) := by
    rw [hxl]
    exact runL_of xs ws xs (by omega) rfl fun i q1 q2 q3 => (hp i (by omega) q2 q1).same
   have := size_of (e := x) (w := w') h1 (by rw [hx, set_w]; omega) (by rw [h2]; exact wt_wants hwt) hr (by rw [h2, hx, set_op, set_n]; exact hbad)
   rw [this, h2, hx, set_set]
 rcases hc with ⟨ho, hw0, hh, hx⟩ | ⟨hnum, ws, hws, hr, hbad, hx⟩
 ·cases shp_nd hs <;> first | omega | skip
  rename_i q1 q2 q3 q4 q5 q6 q7 q8 q9
  have hx' : x = e.set W [] := by rw [hx]; unfold E.set; rw [ho, q2, q3, q4, q5]
  have hown : own x = W := by rw [hx', own1 (by exact ho)]; rfl
  have ho1 : own e = e.w := own1 ho
  have hwt : Wt x W [] := by
   have := Wt.leaf (e := x) (w := W) (.inl (by rw [hx']; exact ho)) hown
   rw [hx', set_l] at this
   rw [hx']; exact this
  exact key [] [] hx' (by rw [q6]) (fun i h => by rw [q6] at h; simp at h) hown (fun h => by omega) (fun v hv => by simp at hv) (by simp [q6]) (fun _ => hh) hwt (fun h => by omega)
 ·have hwt := wants_wt hs hws
  have hwl := wt_len hs hwt
  obtain ⟨hl, hget⟩ := runL_ok e.l ws hwl.symm hr
  have hge := wt_ge hg hs hpos hwt
  obtain ⟨X, hX⟩ : ∃ X, (runL (e.l.map size) ws).1 = X := ⟨_, rfl⟩
  have hp : Pts g e ws X := fun i h1 h2 h3 => by
   refine ih _ (List.getElem_mem h1) _ _ (shp_part hs (List.getElem_mem h1)) (hge _ (List.getElem_mem h2)) ?_
   rw [hget i h1 h2]
   simp only [hX]
  rw [hX] at hbad hx hl
  have h1w : e.op = 1 → own e = W := fun ho => by
   cases hwt <;> omega
  have hown := own_parts hg hs hpos hwt hl hp h1w
  have hh : e.op = 1 → holds W e.v = true := fun ho => by
   cases shp_nd hs <;> first | omega | skip
   rename_i q1 q2 q3 q4 q5 q6 q7 q8 q9
   have := h1w ho
   rw [own1 ho] at this
   rcases q9 with q | q
   ·exact (hnum ⟨ho, q⟩).elim
   ·rw [← this]; exact q
  exact key ws X hx hl hp (by rw [hx]; exact hown) (few_parts hg hs hpos hwt hl hp) (fun v hv h64 => wt_few hg hs hpos h64 hwt hl hp v hv) hwl hh (by rw [hx]; exact wt_set hg hs hpos hwt hl hp hown) hbad
end Fil.Sz

namespace Go.Proofs.Ytdiebjnjhgbklaa
open Abs Fil Fil.Sz
theorem exprD_bad {d : Flat} {e : E} {w : Int} (h : sigsOk d.sigs = false ∨ w < 0 ∨ 64 < w ∨ shp d.sigs e = false) : exprD d e w = (zE, 1) := by unfold exprD; rw [if_pos h]
theorem exprD_much {d : Flat} {e : E} {w : Int} (h : ¬ (sigsOk d.sigs = false ∨ w < 0 ∨ 64 < w ∨ shp d.sigs e = false)) (h2 : 65536 < nodes e ∨ 64 < deep e) : exprD d e w = (zE, 2) := by unfold exprD; rw [if_neg h, if_pos h2]
theorem exprD_ok {d : Flat} {e : E} {w : Int} (h : ¬ (sigsOk d.sigs = false ∨ w < 0 ∨ 64 < w ∨ shp d.sigs e = false)) (h2 : ¬ (65536 < nodes e ∨ 64 < deep e)) : exprD d e w = size e w := by unfold exprD; rw [if_neg h, if_neg h2]
theorem sz_Expr (d : Flat) (e : E) (w : Int) (σ : Sig) (hd : d.sigs.length ≤ 1000000000000) (he : nodes e ≤ 16777216) (hw : WfE e) : ACalls Try.prog 16 [encD d, encE e, .int .i64 w] σ (fun r σ' => r = .ret (.tup [encE (exprD d e w).1, .int .i64 (exprD d e w).2]) ∧ σ' = σ) := by
 have h1 := encEs_eq e
 have c1 := fun τ => sz_signals d.sigs τ hd
 have c2 := fun τ => sz_shape d.sigs hd e τ he hw
 have c3 := fun τ => sz_countE e τ he
 have c4 := fun τ => sz_cfits (nodes e) (deep e) τ
 have c5 := fun (h : SgOk d.sigs) (h2 : shp d.sigs e = true) τ h0 => sz_size d.sigs h e w τ h2 he hw h0
 have hso := sigsOk_ok (l := d.sigs)
 have k1 := exprD_bad (d := d) (e := e) (w := w)
 have k2 := exprD_much (d := d) (e := e) (w := w)
 have k3 := exprD_ok (d := d) (e := e) (w := w)
 obtain ⟨R, hR⟩ : ∃ R, exprD d e w = R := ⟨_, rfl⟩
 rw [hR] at k1 k2 k3 ⊢
 clear hR
 refine calls_x mixed Try.func16 b16 n16 rfl q16 (by simp) ?_; unfold c16 r16
 obtain ⟨a, ha⟩ : ∃ a, sigsOk d.sigs = a := ⟨_, rfl⟩
 obtain ⟨b, hb⟩ : ∃ a, shp d.sigs e = a := ⟨_, rfl⟩
 rw [ha] at c1 k1 k2 k3 hso
 rw [hb] at c2 k1 k2 k3 c5
 clear ha hb
 cases a
 ·rw [k1 (.inl rfl), encE_zero]
  clear k1 k2 k3 c5
  repeat' (first | simp (maxDischargeDepth := 9) -implicitDefEqProofs -dsimp only [go_sem, seval, *] | ((with_reducible refine Zt (fun oF hoF hnF hnF' => ?_)); (try simp only [upd_none, ne_eq, not_and] at hoF)) | ((with_reducible apply ACalls.one1); (focus ((with_reducible refine c1 _) <;> (first | (simp (maxDischargeDepth := 9) -implicitDefEqProofs -dsimp only [go_sem, seval, *]; done) | omega))); (focus (first | trivial | with_reducible exact rfl | (simp (maxDischargeDepth := 9) -implicitDefEqProofs -dsimp only [go_sem, seval]; done)))))
  refine fin_eq ?_
  (repeat' simp (maxDischargeDepth := 9) -implicitDefEqProofs -dsimp only [go_sem, seval, *])
 by_cases w0 : w < 0
 ·rw [k1 (.inr (.inl w0)), encE_zero]
  clear k1 k2 k3 c5
  repeat' (first | simp (maxDischargeDepth := 9) -implicitDefEqProofs -dsimp only [go_sem, seval, *] | ((with_reducible refine Zt (fun oF hoF hnF hnF' => ?_)); (try simp only [upd_none, ne_eq, not_and] at hoF)) | ((with_reducible apply ACalls.one1); (focus ((with_reducible refine c1 _) <;> (first | (simp (maxDischargeDepth := 9) -implicitDefEqProofs -dsimp only [go_sem, seval, *]; done) | omega))); (focus (first | trivial | with_reducible exact rfl | (simp (maxDischargeDepth := 9) -implicitDefEqProofs -dsimp only [go_sem, seval]; done)))))
  refine fin_eq ?_
  (repeat' simp (maxDischargeDepth := 9) -implicitDefEqProofs -dsimp only [go_sem, seval, *])
 by_cases w1 : 64 < w
 ·rw [k1 (.inr (.inr (.inl w1))), encE_zero]
  clear k1 k2 k3 c5
  repeat' (first | simp (maxDischargeDepth := 9) -implicitDefEqProofs -dsimp only [go_sem, seval, gt_iff_lt, *] | ((with_reducible refine Zt (fun oF hoF hnF hnF' => ?_)); (try simp only [upd_none, ne_eq, not_and] at hoF)) | ((with_reducible apply ACalls.one1); (focus ((with_reducible refine c1 _) <;> (first | (simp (maxDischargeDepth := 9) -implicitDefEqProofs -dsimp only [go_sem, seval, *]; done) | omega))); (focus (first | trivial | with_reducible exact rfl | (simp (maxDischargeDepth := 9) -implicitDefEqProofs -dsimp only [go_sem, seval]; done)))))
  refine fin_eq ?_
  (repeat' simp (maxDischargeDepth := 9) -implicitDefEqProofs -dsimp only [go_sem, seval, *])
 cases b
 ·rw [k1 (.inr (.inr (.inr rfl))), encE_zero]
  clear k1 k2 k3 c5
  repeat' (first | simp (maxDischargeDepth := 9) -implicitDefEqProofs -dsimp only [go_sem, seval, gt_iff_lt, *] | ((with_reducible refine Zt (fun oF hoF hnF hnF' => ?_)); (try simp only [upd_none, ne_eq, not_and] at hoF)) | ((with_reducible apply ACalls.one1); (focus ((first | with_reducible refine c1 _ | with_reducible refine ACalls.flA (c2 _) ?_) <;> (first | (simp (maxDischargeDepth := 9) -implicitDefEqProofs -dsimp only [go_sem, seval, *]; done) | omega))); (focus (first | trivial | with_reducible exact rfl | (simp (maxDischargeDepth := 9) -implicitDefEqProofs -dsimp only [go_sem, seval]; done)))))
  refine fin_eq ?_
  (repeat' simp (maxDischargeDepth := 9) -implicitDefEqProofs -dsimp only [go_sem, seval, *])
 have hbad : ¬ (true = false ∨ w < 0 ∨ 64 < w ∨ true = false) := by simp; omega
 by_cases hm : 65536 < nodes e ∨ 64 < deep e
 ·rw [k2 hbad hm, encE_zero]
  have hf : (decide ((nodes e : Int) ≤ 65536) && decide ((deep e : Int) ≤ 64)) = false := by
   rw [Bool.and_eq_false_iff, decide_eq_false_iff_not, decide_eq_false_iff_not]; omega
  rw [hf] at c4
  clear k1 k2 k3 c5 hf hbad
  repeat' (first | simp (maxDischargeDepth := 9) -implicitDefEqProofs -dsimp only [go_sem, seval, gt_iff_lt, *] | ((with_reducible refine Zt (fun oF hoF hnF hnF' => ?_)); (try simp only [upd_none, ne_eq, not_and] at hoF)) | ((with_reducible apply ACalls.one1); (focus ((first | with_reducible refine c1 _ | with_reducible refine c4 _ | with_reducible refine ACalls.flA (c2 _) ?_ | with_reducible refine ACalls.flA (c3 _) ?_) <;> (first | (simp (maxDischargeDepth := 9) -implicitDefEqProofs -dsimp only [go_sem, seval, *]; done) | omega))); (focus (first | trivial | with_reducible exact rfl | (simp (maxDischargeDepth := 9) -implicitDefEqProofs -dsimp only [go_sem, seval]; done)))))
  refine fin_eq ?_
  (repeat' simp (maxDischargeDepth := 9) -implicitDefEqProofs -dsimp only [go_sem, seval, *])
 ·rw [k3 hbad hm]
  have hf : (decide ((nodes e : Int) ≤ 65536) && decide ((deep e : Int) ≤ 64)) = true := by
   rw [Bool.and_eq_true, decide_eq_true_eq, decide_eq_true_eq]; omega
  rw [hf] at c4
  replace c5 := fun τ => c5 (hso rfl) rfl τ (by omega)
  obtain ⟨⟨x, f⟩, hxf⟩ : ∃ R, size e w = R := ⟨_, rfl⟩
  rw [hxf] at c5 ⊢
  clear k1 k2 k3 hf hbad hxf
  repeat' (first | simp (maxDischargeDepth := 9) -implicitDefEqProofs -dsimp only [go_sem, seval, gt_iff_lt, *] | ((with_reducible refine Zt (fun oF hoF hnF hnF' => ?_)); (try simp only [upd_none, ne_eq, not_and] at hoF)) | ((with_reducible apply ACalls.one1); (focus ((first | with_reducible refine c1 _ | with_reducible refine c4 _ | with_reducible refine ACalls.flA (c2 _) ?_ | with_reducible refine ACalls.flA (c3 _) ?_ | with_reducible refine ACalls.flA (c5 _) ?_) <;> (first | (simp (maxDischargeDepth := 9) -implicitDefEqProofs -dsimp only [go_sem, seval, *]; done) | omega))); (focus (first | trivial | with_reducible exact rfl | (simp (maxDischargeDepth := 9) -implicitDefEqProofs -dsimp only [go_sem, seval]; done)))))
  refine fin_eq ?_
  (repeat' simp (maxDischargeDepth := 9) -implicitDefEqProofs -dsimp only [go_sem, seval, *])
theorem exprD_nodes (d : Flat) (e : E) (w : Int) : nodes (exprD d e w).1 ≤ nodes e := by
 have hz : nodes zE ≤ nodes e := by
  have h1 := nodes_pos e
  have : nodes zE = 1 := by rw [nodes_eq]; rfl
  omega
 unfold exprD
 split
 ·exact hz
 rename_i h
 split
 ·exact hz
 rename_i h2
 have hs : shp d.sigs e = true := by
  cases q : shp d.sigs e with
  | true => rfl
  | false => exact (h (.inr (.inr (.inr q)))).elim
 have hg : sigsOk d.sigs = true := by
  cases q : sigsOk d.sigs with
  | true => rfl
  | false => exact (h (.inl q)).elim
 by_cases hf : (size e w).2 = 0
 ·have := size_main (sigsOk_ok hg) e w (size e w).1 hs (by omega) (by rw [← hf])
  rw [this.nodes]; exact Nat.le_refl _
 ·have : (size e w).1 = zE := by
   rw [size_eq] at hf ⊢
   split
   ·rfl
   rename_i q1
   rw [if_neg q1] at hf
   split
   ·rename_i q2
    rw [if_pos q2] at hf
    split
    ·rename_i q3; rw [if_pos q3] at hf; simp at hf
    ·rfl
   ·rename_i q2
    rw [if_neg q2] at hf
    split
    ·rfl
    ·rename_i ws hws
     rw [hws] at hf
     simp only [sizeK] at hf ⊢
     split
     ·rfl
     rename_i q3
     rw [if_neg q3] at hf
     split
     ·rfl
     ·rename_i q4; rw [if_neg q4] at hf; simp at hf
  rw [this]; exact hz
open Classical in
theorem sz_CheckE (d : Flat) (e : E) (σ : Sig) (hd : d.sigs.length ≤ 1000000000000) (he : nodes e ≤ 16777216) (hw : WfE e) : ACalls Try.prog 19 [encD d, encE e] σ (fun r σ' => r = .ret (.int .i64 (checkE d e)) ∧ σ' = σ) := by
 have h1 := encEs_eq e
 have c1 := fun τ => sz_Expr d e e.w τ hd he hw
 have hn := exprD_nodes d e e.w
 have hc : checkE d e = if (exprD d e e.w).2 = 0 ∧ (e.w = 0 ∨ ¬ (exprD d e e.w).1 = e) then 90 else (exprD d e e.w).2 := rfl
 obtain ⟨⟨x, f⟩, hR⟩ : ∃ R, exprD d e e.w = R := ⟨_, rfl⟩
 rw [hR] at c1 hn hc
 simp only at c1 hn hc
 have c2 := fun τ => sz_SameE x e τ (by omega) he
 refine calls_x mixed Try.func19 b19 n19 rfl q19 (by simp) ?_; unfold c19 r19
 obtain ⟨C, hC⟩ : ∃ C, checkE d e = C := ⟨_, rfl⟩
 rw [hC] at hc ⊢
 obtain ⟨s, hs⟩ : ∃ s, same x e = s := ⟨_, rfl⟩
 rw [hs] at c2
 clear hR hC hw he hn
 by_cases hf : f = 0
 ·by_cases he : e.w = 0
  ·rw [if_pos ⟨hf, .inl he⟩] at hc
   clear hs
   repeat' (first | simp (maxDischargeDepth := 9) -implicitDefEqProofs -dsimp only [go_sem, seval, *] | ((with_reducible refine Zt (fun oF hoF hnF hnF' => ?_)); (try simp only [upd_none, ne_eq, not_and] at hoF)) | ((with_reducible apply ACalls.one1); (focus ((with_reducible refine ACalls.flA (c1 _) ?_) <;> (first | (simp (maxDischargeDepth := 9) -implicitDefEqProofs -dsimp only [go_sem, seval, *]; done) | omega))); (focus (first | trivial | with_reducible exact rfl | (simp (maxDischargeDepth := 9) -implicitDefEqProofs -dsimp only [go_sem, seval]; done)))))
   refine fin_eq ?_
   (repeat' simp (maxDischargeDepth := 9) -implicitDefEqProofs -dsimp only [go_sem, seval, *])
  ·have hb : (e.w == 0) = false := by simpa using he
   cases s
   ·rw [if_pos ⟨hf, .inr (same_false.1 hs)⟩] at hc
    clear hs he
    repeat' (first | simp (maxDischargeDepth := 9) -implicitDefEqProofs -dsimp only [go_sem, seval, *] | ((with_reducible refine Zt (fun oF hoF hnF hnF' => ?_)); (try simp only [upd_none, ne_eq, not_and] at hoF)) | ((with_reducible apply ACalls.one1); (focus ((first | with_reducible refine ACalls.flA (c1 _) ?_ | with_reducible refine ACalls.flA (c2 _) ?_) <;> (first | (simp (maxDischargeDepth := 9) -implicitDefEqProofs -dsimp only [go_sem, seval, *]; done) | omega))); (focus (first | trivial | with_reducible exact rfl | (simp (maxDischargeDepth := 9) -implicitDefEqProofs -dsimp only [go_sem, seval]; done)))))
    refine fin_eq ?_
    (repeat' simp (maxDischargeDepth := 9) -implicitDefEqProofs -dsimp only [go_sem, seval, *])
   ·rw [if_neg (fun h => by rcases h.2 with q | q; exact he q; exact q (same_iff.1 hs))] at hc
    clear hs he
    repeat' (first | simp (maxDischargeDepth := 9) -implicitDefEqProofs -dsimp only [go_sem, seval, *] | ((with_reducible refine Zt (fun oF hoF hnF hnF' => ?_)); (try simp only [upd_none, ne_eq, not_and] at hoF)) | ((with_reducible apply ACalls.one1); (focus ((first | with_reducible refine ACalls.flA (c1 _) ?_ | with_reducible refine ACalls.flA (c2 _) ?_) <;> (first | (simp (maxDischargeDepth := 9) -implicitDefEqProofs -dsimp only [go_sem, seval, *]; done) | omega))); (focus (first | trivial | with_reducible exact rfl | (simp (maxDischargeDepth := 9) -implicitDefEqProofs -dsimp only [go_sem, seval]; done)))))
    refine fin_eq ?_
    (repeat' simp (maxDischargeDepth := 9) -implicitDefEqProofs -dsimp only [go_sem, seval, *])
 ·have hb : (f == 0) = false := by simpa using hf
  rw [if_neg (fun h => hf h.1)] at hc
  clear hs hf
  repeat' (first | simp (maxDischargeDepth := 9) -implicitDefEqProofs -dsimp only [go_sem, seval, *] | ((with_reducible refine Zt (fun oF hoF hnF hnF' => ?_)); (try simp only [upd_none, ne_eq, not_and] at hoF)) | ((with_reducible apply ACalls.one1); (focus ((with_reducible refine ACalls.flA (c1 _) ?_) <;> (first | (simp (maxDischargeDepth := 9) -implicitDefEqProofs -dsimp only [go_sem, seval, *]; done) | omega))); (focus (first | trivial | with_reducible exact rfl | (simp (maxDischargeDepth := 9) -implicitDefEqProofs -dsimp only [go_sem, seval]; done)))))
  refine fin_eq ?_
  (repeat' simp (maxDischargeDepth := 9) -implicitDefEqProofs -dsimp only [go_sem, seval, *])
end Go.Proofs.Ytdiebjnjhgbklaa

namespace Go.Proofs.Ytdiebjnjhgbklaa
open Abs Fil Fil.Sz
def underM (x : E) (ws : List Int) : E × Int := if (runL (x.l.map size) ws).2 ≠ 0 then (zE, (runL (x.l.map size) ws).2) else (x.set x.w (runL (x.l.map size) ws).1, 0)
theorem size_neg {e : E} (h : ¬ 1 < own e) : size e (-1) = size e 1 := by
 rw [size_eq e (-1), size_eq e 1]
 have h1 : wide e (-1) = 1 := wide_bit e
 have h2 : wide e 1 = 1 := wide_of (by omega) (by omega)
 unfold sizeK
 rw [h1, h2, if_neg (fun q : (-1 : Int) = -1 ∧ 1 < own e => h q.2), if_neg (fun q : (1 : Int) = -1 ∧ 1 < own e => by omega)]
set_option maxRecDepth 20000 in
set_option maxHeartbeats 1000000 in
theorem rf_under_step (x : E) (ws : List Int) (σ : Sig) (hn : x.l.length ≤ 16777216) (hwl : ws.length = x.l.length) (hge : ∀ v ∈ ws, -1 ≤ v)
  (hown : ∀ p ∈ x.l, ∀ τ, ACalls Try.prog 78 [encE p] τ (fun r σ' => r = .ret (.int .i64 (own p)) ∧ σ' = τ))
  (ih : ∀ p ∈ x.l, ∀ w τ, 0 ≤ w → ACalls Try.prog 42 [encE p, .int .i64 w] τ (fun r σ' => r = .ret (.tup [encE (size p w).1, .int .i64 (size p w).2]) ∧ σ' = τ)) :
  ACalls Try.prog 80 [encE x, .slice (ws.map encInt) .no] σ (fun r σ' => r = .ret (.tup [encE (underM x ws).1, .int .i64 (underM x ws).2]) ∧ σ' = σ) := by
 have h1 := encEs_eq x
 have kE : ∀ i, (h1 : i < x.l.length) → (h2 : i < ws.length) → (∀ j, (h3 : j < x.l.length) → (h4 : j < ws.length) → j < i → (size x.l[j] ws[j]).2 = 0) → (size x.l[i] ws[i]).2 ≠ 0 → underM x ws = (zE, (size x.l[i] ws[i]).2) := fun i h1 h2 h3 h4 => by
  unfold underM
  rw [runL_err h1 h2 (fun j hj => h3 j (by omega) (by omega) hj) h4, if_pos h4]
 have kO : (∀ j, (h3 : j < x.l.length) → (h4 : j < ws.length) → (size x.l[j] ws[j]).2 = 0) → underM x ws = (x.set x.w (resTo x.l ws x.l.length), 0) := fun h => by
  unfold underM
  rw [runL_all hwl h, if_neg (by simp)]
 have kr := fun i hi => resTo_len (l := x.l) (ws := ws) hwl (i := i) hi
 have ks := fun i h1 h2 => resTo_succ (l := x.l) (ws := ws) (i := i) h1 h2
 obtain ⟨R, hR⟩ : ∃ R, underM x ws = R := ⟨_, rfl⟩
 rw [hR] at kE kO ⊢
 clear hR
 refine ACalls.virt (callable_of Try.func80 b80 n80) 8 (fun oV1 hoV1 hnV1 hnV1' => ?_); (try simp only [upd_none, ne_eq, not_and] at hoV1); refine calls_x mixed Try.func80 b80 n80 rfl q80 (by simp) ?_; unfold c80 r80
 repeat' (first | simp (maxDischargeDepth := 9) -implicitDefEqProofs -dsimp only [go_sem, seval, *] | ((with_reducible refine Zt (fun oF hoF hnF hnF' => ?_)); (try simp only [upd_none, ne_eq, not_and] at hoF)))
 rename_i o2 nx1 nx2 ho2
 obtain ⟨o4, e4⟩ : ∃ x, x = oF := ⟨oF, rfl⟩
 subst e4
 obtain ⟨a0, ho2⟩ := ho2
 obtain ⟨a1, a2, ho4⟩ := hoF
 have b0 : ¬ oV1 = o2 := fun e => a0 e.symm
 have b1 : ¬ o2 = o4 := fun e => a1 e.symm
 have b2 : ¬ oV1 = o4 := fun e => a2 e.symm
 clear nx1 nx2 hnF hnF' hnV1 hnV1'
 refine loop_rule (fun i : Nat => [(7, some (.int .i64 i)), (2, some (.ptr o2 0)), (1, some (.slice (ws.map encInt) .no)), (4, some (.ptr o4 0)), (6, some (.slice ((resTo x.l ws i).map encE) (.own oV1)))])
  (fun i => upd (upd (upd σ oV1 (.grow 8 i)) o2 (.cells [.int .i64 x.op, .int .i64 x.w, .int .u64 x.v, .int .i64 x.sig, .int .i64 x.hi, .int .i64 x.lo, .int .i64 x.n, .slice (x.l.map encE) .no])) o4 (.cells zN))
  (fun i => i ≤ x.l.length ∧ ∀ j, (h3 : j < x.l.length) → (h4 : j < ws.length) → j < i → (size x.l[j] ws[j]).2 = 0) (fun i => x.l.length - i) 0 ?_ ?_
 ·have e0 : resTo x.l ws 0 = [] := by simp [resTo]
  clear kE kO kr ks hge hown ih
  (repeat' simp (maxDischargeDepth := 9) -implicitDefEqProofs -dsimp only [go_sem, seval, List.map_nil, *]) <;> (repeat' refine And.intro ?_ ?_) <;> (first | omega | skip)
 ·rintro i ⟨hi, hok⟩
  by_cases hlt : i < x.l.length
  ·have hlt2 : i < ws.length := by omega
   have hgi := hge _ (List.getElem_mem hlt2)
   have hc := fun w τ h => ih x.l[i] (List.getElem_mem hlt) w τ h
   have ho := fun τ => hown x.l[i] (List.getElem_mem hlt) τ
   have kEi := kE i hlt hlt2 hok
   have ksi := ks i hlt hlt2
   have kri := kr i (by omega)
   have hstep : (size x.l[i] ws[i]).2 = 0 → ∀ j, (h3 : j < x.l.length) → (h4 : j < ws.length) → j < i + 1 → (size x.l[j] ws[j]).2 = 0 := fun h j h3 h4 h5 => by
    rcases Nat.lt_or_ge j i with q | q
    ·exact hok j h3 h4 q
    ·obtain rfl : j = i := by omega
     exact h
   clear kE kO kr ks hge hown ih hok
   obtain ⟨X, hX⟩ : ∃ X, resTo x.l ws i = X := ⟨_, rfl⟩
   rw [hX] at ksi kri ⊢
   clear hX
   by_cases hb : ws[i] = -1 ∧ 1 < own x.l[i]
   ·obtain ⟨hb1, hb2⟩ := hb
    rw [hb1, size_bit hb2] at kEi
    rw [kEi (by simp), encE_zero]
    clear kEi ksi hstep hc
    repeat' (first | simp (maxDischargeDepth := 9) -implicitDefEqProofs -dsimp only [go_sem, seval, gt_iff_lt, *] | simp (disch := omega) only [wrap64] | ((with_reducible refine Zu ?_ ?_); focus omega) | ((with_reducible refine Zt (fun oF hoF hnF hnF' => ?_)); (try simp only [upd_none, ne_eq, not_and] at hoF)) | ((with_reducible apply ACalls.one1); (focus ((with_reducible refine ho _) <;> (first | (simp (maxDischargeDepth := 9) -implicitDefEqProofs -dsimp only [go_sem, seval, *]; done) | omega))); (focus (first | trivial | with_reducible exact rfl | (simp (maxDischargeDepth := 9) -implicitDefEqProofs -dsimp only [go_sem, seval]; done)))))
    refine fin_eq ?_
    (repeat' simp (maxDischargeDepth := 9) -implicitDefEqProofs -dsimp only [go_sem, seval, *])
   ·have hcase : (ws[i] = -1 ∧ ¬ 1 < own x.l[i] ∧ size x.l[i] ws[i] = size x.l[i] 1) ∨ (¬ ws[i] < 0) := by
     by_cases q : ws[i] = -1
     ·exact .inl ⟨q, fun h => hb ⟨q, h⟩, by rw [q]; exact size_neg fun h => hb ⟨q, h⟩⟩
     ·exact .inr (by omega)
    obtain ⟨⟨y, f⟩, hyf⟩ : ∃ r, size x.l[i] ws[i] = r := ⟨_, rfl⟩
    rw [hyf] at kEi ksi hstep hcase
    simp only at kEi ksi hstep
    have hc2 : ∀ τ, ACalls Try.prog 42 [encE x.l[i], .int .i64 (if ws[i] = -1 then 1 else ws[i])] τ (fun r σ' => r = .ret (.tup [encE y, .int .i64 f]) ∧ σ' = τ) := fun τ => by
     rcases hcase with ⟨q1, q2, q3⟩ | q
     ·rw [if_pos q1]
      have := hc 1 τ (by omega)
      rw [← q3] at this; exact this
     ·rw [if_neg (by omega)]
      have := hc ws[i] τ (by omega)
      rw [hyf] at this; exact this
    clear hc hb hyf
    by_cases hf : f = 0
    ·subst hf
     have hn := hstep rfl
     clear kEi hstep
     rcases hcase with ⟨q1, q2, q3⟩ | q
     ·rw [if_pos q1] at hc2
      clear q3
      repeat' (first | simp (maxDischargeDepth := 9) -implicitDefEqProofs -dsimp only [go_sem, seval, gt_iff_lt, *] | simp (disch := omega) only [wrap64] | ((with_reducible refine Zv ?_ ?_); focus (first | omega | exact rfl)) | ((with_reducible refine Zu ?_ ?_); focus omega) | ((with_reducible refine Zt (fun oF hoF hnF hnF' => ?_)); (try simp only [upd_none, ne_eq, not_and] at hoF)) | ((with_reducible apply ACalls.one1); (focus ((first | with_reducible refine ho _ | with_reducible refine hc2 _) <;> (first | (simp (maxDischargeDepth := 9) -implicitDefEqProofs -dsimp only [go_sem, seval, *]; done) | omega))); (focus (first | trivial | with_reducible exact rfl | (simp (maxDischargeDepth := 9) -implicitDefEqProofs -dsimp only [go_sem, seval]; done)))))
      refine loop_next _ _ _ _ (i + 1) ?_; (repeat' simp (maxDischargeDepth := 9) -implicitDefEqProofs -dsimp only [go_sem, seval,  List.map_append, List.map_cons, List.map_nil, *]) <;> (repeat' refine And.intro ?_ ?_) <;> (first | omega | skip)
      exact fun j h3 h4 h5 => hn j h3 (by omega) h5
     ·rw [if_neg (by omega)] at hc2
      repeat' (first | simp (maxDischargeDepth := 9) -implicitDefEqProofs -dsimp only [go_sem, seval, gt_iff_lt, *] | simp (disch := omega) only [wrap64] | ((with_reducible refine Zv ?_ ?_); focus (first | omega | exact rfl)) | ((with_reducible refine Zu ?_ ?_); focus omega) | ((with_reducible refine Zt (fun oF hoF hnF hnF' => ?_)); (try simp only [upd_none, ne_eq, not_and] at hoF)) | ((with_reducible apply ACalls.one1); (focus ((with_reducible refine hc2 _) <;> (first | (simp (maxDischargeDepth := 9) -implicitDefEqProofs -dsimp only [go_sem, seval, *]; done) | omega))); (focus (first | trivial | with_reducible exact rfl | (simp (maxDischargeDepth := 9) -implicitDefEqProofs -dsimp only [go_sem, seval]; done)))))
      refine loop_next _ _ _ _ (i + 1) ?_; (repeat' simp (maxDischargeDepth := 9) -implicitDefEqProofs -dsimp only [go_sem, seval,  List.map_append, List.map_cons, List.map_nil, *]) <;> (repeat' refine And.intro ?_ ?_) <;> (first | omega | skip)
      exact fun j h3 h4 h5 => hn j h3 (by omega) h5
    ·have hfb : (f != 0) = true := by simpa using hf
     rw [kEi hf, encE_zero]
     clear kEi hstep hf ksi
     rcases hcase with ⟨q1, q2, q3⟩ | q
     ·rw [if_pos q1] at hc2
      clear q3
      repeat' (first | simp (maxDischargeDepth := 9) -implicitDefEqProofs -dsimp only [go_sem, seval, gt_iff_lt, *] | simp (disch := omega) only [wrap64] | ((with_reducible refine Zu ?_ ?_); focus omega) | ((with_reducible refine Zt (fun oF hoF hnF hnF' => ?_)); (try simp only [upd_none, ne_eq, not_and] at hoF)) | ((with_reducible apply ACalls.one1); (focus ((first | with_reducible refine ho _ | with_reducible refine hc2 _) <;> (first | (simp (maxDischargeDepth := 9) -implicitDefEqProofs -dsimp only [go_sem, seval, *]; done) | omega))); (focus (first | trivial | with_reducible exact rfl | (simp (maxDischargeDepth := 9) -implicitDefEqProofs -dsimp only [go_sem, seval]; done)))))
      refine fin_eq ?_
      (repeat' simp (maxDischargeDepth := 9) -implicitDefEqProofs -dsimp only [go_sem, seval, *])
     ·rw [if_neg (by omega)] at hc2
      repeat' (first | simp (maxDischargeDepth := 9) -implicitDefEqProofs -dsimp only [go_sem, seval, gt_iff_lt, *] | simp (disch := omega) only [wrap64] | ((with_reducible refine Zu ?_ ?_); focus omega) | ((with_reducible refine Zt (fun oF hoF hnF hnF' => ?_)); (try simp only [upd_none, ne_eq, not_and] at hoF)) | ((with_reducible apply ACalls.one1); (focus ((with_reducible refine hc2 _) <;> (first | (simp (maxDischargeDepth := 9) -implicitDefEqProofs -dsimp only [go_sem, seval, *]; done) | omega))); (focus (first | trivial | with_reducible exact rfl | (simp (maxDischargeDepth := 9) -implicitDefEqProofs -dsimp only [go_sem, seval]; done)))))
      refine fin_eq ?_
      (repeat' simp (maxDischargeDepth := 9) -implicitDefEqProofs -dsimp only [go_sem, seval, *])
  ·have ei : i = x.l.length := by omega
   subst ei
   rw [kO fun j h3 h4 => hok j h3 h4 h3, encE_set]
   obtain ⟨X, hX⟩ : ∃ X, resTo x.l ws x.l.length = X := ⟨_, rfl⟩
   rw [hX]
   clear kE kO kr ks hge hown ih hok hX
   repeat' (first | simp (maxDischargeDepth := 9) -implicitDefEqProofs -dsimp only [go_sem, seval, *] | simp (disch := omega) only [wrap64])
   refine fin_eq ?_
   (repeat' simp (maxDischargeDepth := 9) -implicitDefEqProofs -dsimp only [go_sem, seval, *])
theorem rf_unary_step (x : E) (w : Int) (σ : Sig) (ho : x.op = 4) (hn1 : 1 ≤ x.n) (hn2 : x.n ≤ 6) (hl : x.l.length = 1)
  (hu : ∀ ws τ, ws.length = x.l.length → (∀ v ∈ ws, -1 ≤ v) → ACalls Try.prog 80 [encE x, .slice (ws.map encInt) .no] τ (fun r σ' => r = .ret (.tup [encE (underM x ws).1, .int .i64 (underM x ws).2]) ∧ σ' = τ)) (hw : -1 ≤ w) :
  ACalls Try.prog 81 [encE x, .int .i64 w] σ (fun r σ' => r = .ret (match wants x w with | none => .tup [encE zE, .int .i64 90] | some ws => .tup [encE (underM x ws).1, .int .i64 (underM x ws).2]) ∧ σ' = σ) := by
 have h1 := encEs_eq x
 have u1 := fun τ => hu [w] τ (by rw [hl]; rfl) (by simpa using hw)
 have u2 := fun τ => hu [-1] τ (by rw [hl]; rfl) (by simp)
 have u3 := fun τ => hu [0] τ (by rw [hl]; rfl) (by simp)
 simp only [List.map_cons, List.map_nil] at u1 u2 u3
 rw [wants4 (.inl ho), hl]
 clear hu
 refine calls_x mixed Try.func81 b81 n81 rfl q81 (by simp) ?_; unfold c81 r81
 by_cases c1 : x.n ≤ 2
 ·rw [if_neg (by omega), if_neg (by omega), if_neg (by omega), if_neg (by omega)]
  simp only [List.replicate_one]
  clear u2 u3
  repeat' (first | simp (maxDischargeDepth := 9) -implicitDefEqProofs -dsimp only [go_sem, seval, *] | ((with_reducible refine Zt (fun oF hoF hnF hnF' => ?_)); (try simp only [upd_none, ne_eq, not_and] at hoF)) | ((with_reducible apply ACalls.one1); (focus ((with_reducible refine ACalls.flA (u1 _) ?_) <;> (first | (simp (maxDischargeDepth := 9) -implicitDefEqProofs -dsimp only [go_sem, seval, *]; done) | omega))); (focus (first | trivial | with_reducible exact rfl | (simp (maxDischargeDepth := 9) -implicitDefEqProofs -dsimp only [go_sem, seval]; done)))))
  refine fin_eq ?_
  (repeat' simp (maxDischargeDepth := 9) -implicitDefEqProofs -dsimp only [go_sem, seval, *])
 by_cases hw1 : w = 1
 ·have hb : (w != 1) = false := by simp [hw1]
  by_cases c2 : x.n = 6
  ·rw [if_pos (.inl c2), if_neg (by omega)]
   simp only [List.replicate_one]
   clear u1 u3 hw1
   repeat' (first | simp (maxDischargeDepth := 9) -implicitDefEqProofs -dsimp only [go_sem, seval, *] | ((with_reducible refine Zt (fun oF hoF hnF hnF' => ?_)); (try simp only [upd_none, ne_eq, not_and] at hoF)) | ((with_reducible apply ACalls.one1); (focus ((with_reducible refine ACalls.flA (u2 _) ?_) <;> (first | (simp (maxDischargeDepth := 9) -implicitDefEqProofs -dsimp only [go_sem, seval, *]; done) | omega))); (focus (first | trivial | with_reducible exact rfl | (simp (maxDischargeDepth := 9) -implicitDefEqProofs -dsimp only [go_sem, seval]; done)))))
   refine fin_eq ?_
   (repeat' simp (maxDischargeDepth := 9) -implicitDefEqProofs -dsimp only [go_sem, seval, *])
  ·have hb2 : (x.n == 6) = false := by simpa using c2
   rw [if_neg (by omega), if_pos (by omega), if_neg (by omega)]
   simp only [List.replicate_one]
   clear u1 u2 hw1 c2
   repeat' (first | simp (maxDischargeDepth := 9) -implicitDefEqProofs -dsimp only [go_sem, seval, *] | ((with_reducible refine Zt (fun oF hoF hnF hnF' => ?_)); (try simp only [upd_none, ne_eq, not_and] at hoF)) | ((with_reducible apply ACalls.one1); (focus ((with_reducible refine ACalls.flA (u3 _) ?_) <;> (first | (simp (maxDischargeDepth := 9) -implicitDefEqProofs -dsimp only [go_sem, seval, *]; done) | omega))); (focus (first | trivial | with_reducible exact rfl | (simp (maxDischargeDepth := 9) -implicitDefEqProofs -dsimp only [go_sem, seval]; done)))))
   refine fin_eq ?_
   (repeat' simp (maxDischargeDepth := 9) -implicitDefEqProofs -dsimp only [go_sem, seval, *])
 ·have hb : (w != 1) = true := by simp [hw1]
  have hres : (if x.n = 6 ∨ x.n = 25 ∨ x.n = 26 then if w ≠ 1 then none else some (List.replicate 1 (-1)) else if x.n = 3 ∨ x.n = 4 ∨ x.n = 5 then if w ≠ 1 then none else some (List.replicate 1 0)
   else if 19 ≤ x.n ∧ x.n ≤ 24 then if w ≠ 1 then none else some (List.replicate 1 (told (fst0 (x.l.map own)) 32)) else if x.n = 17 ∨ x.n = 18 then some [w, 0] else some (List.replicate 1 w)) = none := by
   by_cases c2 : x.n = 6
   ·rw [if_pos (.inl c2), if_pos hw1]
   ·rw [if_neg (by omega), if_pos (by omega), if_pos hw1]
  rw [hres]
  dsimp only
  rw [encE_zero]
  clear u1 u2 u3 hres
  repeat' (first | simp (maxDischargeDepth := 9) -implicitDefEqProofs -dsimp only [go_sem, seval, *] | ((with_reducible refine Zt (fun oF hoF hnF hnF' => ?_)); (try simp only [upd_none, ne_eq, not_and] at hoF)))
  refine fin_eq ?_
  (repeat' simp (maxDischargeDepth := 9) -implicitDefEqProofs -dsimp only [go_sem, seval, *])
theorem rf_binary_step (x : E) (w : Int) (σ : Sig) (ho : x.op = 5) (hn1 : 11 ≤ x.n) (hn2 : x.n ≤ 26) (hl : x.l.length = 2)
  (hu : ∀ ws τ, ws.length = x.l.length → (∀ v ∈ ws, -1 ≤ v) → ACalls Try.prog 80 [encE x, .slice (ws.map encInt) .no] τ (fun r σ' => r = .ret (.tup [encE (underM x ws).1, .int .i64 (underM x ws).2]) ∧ σ' = τ)) (hw : -1 ≤ w)
  (he : ∀ a ∈ x.l, ∀ b ∈ x.l, ∀ τ, ACalls Try.prog 99 [encE a, encE b] τ (fun r σ' => r = .ret (.int .i64 (eitherM a b)) ∧ σ' = τ)) (hon : ∀ a ∈ x.l, 0 ≤ own a) :
  ACalls Try.prog 82 [encE x, .int .i64 w] σ (fun r σ' => r = .ret (match wants x w with | none => .tup [encE zE, .int .i64 90] | some ws => .tup [encE (underM x ws).1, .int .i64 (underM x ws).2]) ∧ σ' = σ) := by
 have h1 := encEs_eq x
 have l0 : 0 < x.l.length := by omega
 have l1 : 1 < x.l.length := by omega
 have hei := fun τ => he x.l[0] (List.getElem_mem l0) x.l[1] (List.getElem_mem l1) τ
 have hf2 : fst0 (x.l.map own) = eitherM x.l[0] x.l[1] := either_fst hl
 have hf0 : 0 ≤ eitherM x.l[0] x.l[1] := by
  have := hon _ (List.getElem_mem l0)
  have := hon _ (List.getElem_mem l1)
  unfold eitherM; split <;> omega
 obtain ⟨F, hF⟩ : ∃ F, eitherM x.l[0] x.l[1] = F := ⟨_, rfl⟩
 rw [hF] at hei hf2 hf0
 have u1 := fun τ => hu [w, w] τ (by rw [hl]; rfl) (by simpa using hw)
 have u2 := fun τ => hu [-1, -1] τ (by rw [hl]; rfl) (by simp)
 have u3 := fun τ => hu [w, 0] τ (by rw [hl]; rfl) (by simpa using hw)
 have u4 := fun τ => hu [told F 32, told F 32] τ (by rw [hl]; rfl) (by
  have : 1 ≤ told F 32 := by unfold told; split <;> omega
  simp; omega)
 simp only [List.map_cons, List.map_nil] at u1 u2 u3 u4
 rw [wants4 (.inr ho), hl, hf2]
 have l2 : (0 : Int) < x.l.length := by omega
 have l3 : (1 : Int) < x.l.length := by omega
 have hrep : ∀ k : Int, List.replicate 2 k = [k, k] := fun _ => rfl
 clear hu he hon hF hf2
 refine calls_x mixed Try.func82 b82 n82 rfl q82 (by simp) ?_; unfold c82 r82
 by_cases c1 : x.n ≤ 16
 ·rw [if_neg (by omega), if_neg (by omega), if_neg (by omega), if_neg (by omega)]
  simp only [hrep]
  clear u2 u3 u4 hei
  repeat' (first | simp (maxDischargeDepth := 9) -implicitDefEqProofs -dsimp only [go_sem, seval, *] | ((with_reducible refine Zt (fun oF hoF hnF hnF' => ?_)); (try simp only [upd_none, ne_eq, not_and] at hoF)) | ((with_reducible apply ACalls.one1); (focus ((with_reducible refine ACalls.flA (u1 _) ?_) <;> (first | (simp (maxDischargeDepth := 9) -implicitDefEqProofs -dsimp only [go_sem, seval, *]; done) | omega))); (focus (first | trivial | with_reducible exact rfl | (simp (maxDischargeDepth := 9) -implicitDefEqProofs -dsimp only [go_sem, seval]; done)))))
  refine fin_eq ?_
  (repeat' simp (maxDischargeDepth := 9) -implicitDefEqProofs -dsimp only [go_sem, seval, *])
 by_cases c2 : x.n ≤ 18
 ·rw [if_neg (by omega), if_neg (by omega), if_neg (by omega), if_pos (by omega)]
  simp only
  clear u1 u2 u4 hei
  repeat' (first | simp (maxDischargeDepth := 9) -implicitDefEqProofs -dsimp only [go_sem, seval, *] | ((with_reducible refine Zt (fun oF hoF hnF hnF' => ?_)); (try simp only [upd_none, ne_eq, not_and] at hoF)) | ((with_reducible apply ACalls.one1); (focus ((with_reducible refine ACalls.flA (u3 _) ?_) <;> (first | (simp (maxDischargeDepth := 9) -implicitDefEqProofs -dsimp only [go_sem, seval, *]; done) | omega))); (focus (first | trivial | with_reducible exact rfl | (simp (maxDischargeDepth := 9) -implicitDefEqProofs -dsimp only [go_sem, seval]; done)))))
  refine fin_eq ?_
  (repeat' simp (maxDischargeDepth := 9) -implicitDefEqProofs -dsimp only [go_sem, seval, *])
 by_cases hw1 : w = 1
 ·have hb : (w != 1) = false := by simp [hw1]
  by_cases c3 : 25 ≤ x.n
  ·rw [if_pos (by omega), if_neg (by omega)]
   simp only [hrep]
   clear u1 u3 u4 hei hw1
   repeat' (first | simp (maxDischargeDepth := 9) -implicitDefEqProofs -dsimp only [go_sem, seval, ge_iff_le, *] | ((with_reducible refine Zt (fun oF hoF hnF hnF' => ?_)); (try simp only [upd_none, ne_eq, not_and] at hoF)) | ((with_reducible apply ACalls.one1); (focus ((with_reducible refine ACalls.flA (u2 _) ?_) <;> (first | (simp (maxDischargeDepth := 9) -implicitDefEqProofs -dsimp only [go_sem, seval, *]; done) | omega))); (focus (first | trivial | with_reducible exact rfl | (simp (maxDischargeDepth := 9) -implicitDefEqProofs -dsimp only [go_sem, seval]; done)))))
   refine fin_eq ?_
   (repeat' simp (maxDischargeDepth := 9) -implicitDefEqProofs -dsimp only [go_sem, seval, *])
  ·rw [if_neg (by omega), if_neg (by omega), if_pos (by omega), if_neg (by omega)]
   simp only [hrep]
   have hk : told F 32 = if F = 0 then 32 else F := rfl
   obtain ⟨K, hK⟩ : ∃ K, told F 32 = K := ⟨_, rfl⟩
   rw [hK] at hk u4 ⊢
   clear u1 u2 u3 hw1 hK hrep
   by_cases hz : F = 0
   ·rw [if_pos hz] at hk
    repeat' (first | simp (maxDischargeDepth := 9) -implicitDefEqProofs -dsimp only [go_sem, seval, ge_iff_le, *] | ((with_reducible refine Zu ?_ ?_); focus omega) | ((with_reducible refine Zt (fun oF hoF hnF hnF' => ?_)); (try simp only [upd_none, ne_eq, not_and] at hoF)) | ((with_reducible apply ACalls.one1); (focus ((with_reducible refine ACalls.flA (u4 _) ?_) <;> (first | (simp (maxDischargeDepth := 9) -implicitDefEqProofs -dsimp only [go_sem, seval, *]; done) | omega))); (focus (first | trivial | with_reducible exact rfl | (simp (maxDischargeDepth := 9) -implicitDefEqProofs -dsimp only [go_sem, seval]; done)))) | ((with_reducible apply id_one0); (focus (intro tS hS; ((with_reducible refine hei _) <;> (first | (simp (maxDischargeDepth := 9) -implicitDefEqProofs -dsimp only [go_sem, seval, *]; done) | omega | ((with_reducible refine Sub.get hS ?_); simp (maxDischargeDepth := 9) -implicitDefEqProofs -dsimp only [go_sem, seval, *]; done))))); (focus (first | trivial | (simp (maxDischargeDepth := 9) -implicitDefEqProofs -dsimp only [go_sem, seval, *]; done)))))
    refine fin_eq ?_
    (repeat' simp (maxDischargeDepth := 9) -implicitDefEqProofs -dsimp only [go_sem, seval, *])
   ·have hzb : (F == 0) = false := by simpa using hz
    rw [if_neg hz] at hk
    clear hz
    subst hk
    repeat' (first | simp (maxDischargeDepth := 9) -implicitDefEqProofs -dsimp only [go_sem, seval, ge_iff_le, *] | ((with_reducible refine Zu ?_ ?_); focus omega) | ((with_reducible refine Zt (fun oF hoF hnF hnF' => ?_)); (try simp only [upd_none, ne_eq, not_and] at hoF)) | ((with_reducible apply ACalls.one1); (focus ((with_reducible refine ACalls.flA (u4 _) ?_) <;> (first | (simp (maxDischargeDepth := 9) -implicitDefEqProofs -dsimp only [go_sem, seval, *]; done) | omega))); (focus (first | trivial | with_reducible exact rfl | (simp (maxDischargeDepth := 9) -implicitDefEqProofs -dsimp only [go_sem, seval]; done)))) | ((with_reducible apply id_one0); (focus (intro tS hS; ((with_reducible refine hei _) <;> (first | (simp (maxDischargeDepth := 9) -implicitDefEqProofs -dsimp only [go_sem, seval, *]; done) | omega | ((with_reducible refine Sub.get hS ?_); simp (maxDischargeDepth := 9) -implicitDefEqProofs -dsimp only [go_sem, seval, *]; done))))); (focus (first | trivial | (simp (maxDischargeDepth := 9) -implicitDefEqProofs -dsimp only [go_sem, seval, *]; done)))))
    refine fin_eq ?_
    (repeat' simp (maxDischargeDepth := 9) -implicitDefEqProofs -dsimp only [go_sem, seval, *])
 ·have hb : (w != 1) = true := by simp [hw1]
  have hres : (if x.n = 6 ∨ x.n = 25 ∨ x.n = 26 then if w ≠ 1 then none else some (List.replicate 2 (-1)) else if x.n = 3 ∨ x.n = 4 ∨ x.n = 5 then if w ≠ 1 then none else some (List.replicate 2 0)
   else if 19 ≤ x.n ∧ x.n ≤ 24 then if w ≠ 1 then none else some (List.replicate 2 (told F 32)) else if x.n = 17 ∨ x.n = 18 then some [w, 0] else some (List.replicate 2 w)) = none := by
   by_cases c3 : 25 ≤ x.n
   ·rw [if_pos (by omega), if_pos hw1]
   ·rw [if_neg (by omega), if_neg (by omega), if_pos (by omega), if_pos hw1]
  rw [hres]
  dsimp only
  rw [encE_zero]
  clear u1 u2 u3 u4 hres hei
  repeat' (first | simp (maxDischargeDepth := 9) -implicitDefEqProofs -dsimp only [go_sem, seval, *] | ((with_reducible refine Zt (fun oF hoF hnF hnF' => ?_)); (try simp only [upd_none, ne_eq, not_and] at hoF)))
  refine fin_eq ?_
  (repeat' simp (maxDischargeDepth := 9) -implicitDefEqProofs -dsimp only [go_sem, seval, *])
end Go.Proofs.Ytdiebjnjhgbklaa

