/- sized: contracts: shapes of statements. -/
import Derived.Test.YtdiebjnjhgbklaaQSizSizN
set_option linter.unusedSimpArgs false
set_option linter.unusedVariables false
namespace Go.Proofs.Ytdiebjnjhgbklaa
open Abs Fil Fil.Sz
theorem rf_under_nil (x : E) (ws : List Int) (σ : Sig) (hn : x.l = []) :
  ACalls Try.prog 80 [encE x, .slice (ws.map encInt) .no] σ (fun r σ' => r = .ret (.tup [encE (underM x ws).1, .int .i64 (underM x ws).2]) ∧ σ' = σ) := by
 have h1 := encEs_eq x
 have hv : underM x ws = (x.set x.w [], 0) := by
  unfold underM; rw [hn]
  have : runL (List.map size []) ws = ([], 0) := by cases ws <;> rfl
  rw [this, if_neg (by simp)]
 rw [hv, encE_set]
 refine ACalls.virt (callable_of Try.func80 b80 n80) 8 (fun oV1 hoV1 hnV1 hnV1' => ?_); (try simp only [upd_none, ne_eq, not_and] at hoV1); refine calls_x mixed Try.func80 b80 n80 rfl q80 (by simp) ?_; unfold c80 r80
 repeat' (first | simp (maxDischargeDepth := 9) -implicitDefEqProofs -dsimp only [go_sem, seval, List.map_nil, List.length_nil, *] | ((with_reducible refine Zt (fun oF hoF hnF hnF' => ?_)); (try simp only [upd_none, ne_eq, not_and] at hoF)))
 rename_i o2 nx1 nx2 ho2
 obtain ⟨o4, e4⟩ : ∃ x, x = oF := ⟨oF, rfl⟩
 subst e4
 obtain ⟨a0, ho2⟩ := ho2
 obtain ⟨a1, a2, ho4⟩ := hoF
 have b0 : ¬ oV1 = o2 := fun e => a0 e.symm
 have b1 : ¬ o2 = o4 := fun e => a1 e.symm
 have b2 : ¬ oV1 = o4 := fun e => a2 e.symm
 clear nx1 nx2 hnF hnF' hnV1 hnV1'
 refine loop_rule (fun i : Nat => [(7, some (.int .i64 i)), (2, some (.ptr o2 0)), (1, some (.slice (ws.map encInt) .no)), (4, some (.ptr o4 0)), (6, some (.slice [] (.own oV1)))])
  (fun i => upd (upd (upd σ oV1 (.grow 8 0)) o2 (.cells [.int .i64 x.op, .int .i64 x.w, .int .u64 x.v, .int .i64 x.sig, .int .i64 x.hi, .int .i64 x.lo, .int .i64 x.n, .slice [] .no])) o4 (.cells zN))
  (fun i => i = 0) (fun i => 0) 0 ?_ ?_
 ·(repeat' simp (maxDischargeDepth := 9) -implicitDefEqProofs -dsimp only [go_sem, seval, *])
 ·rintro i rfl
  have hz : ¬ (((0 : Nat) : Int) < (([] : List E).length : Nat)) := by simp
  repeat' simp (maxDischargeDepth := 9) -implicitDefEqProofs -dsimp only [go_sem, seval, List.map_nil, List.length_nil, Int.lt_irrefl, Int.natCast_zero, *]
  refine fin_eq ?_
  (repeat' simp (maxDischargeDepth := 9) -implicitDefEqProofs -dsimp only [go_sem, seval, List.map_nil, *])
theorem wants_set {e : E} {W w : Int} (ho : e.op = 4 ∨ e.op = 5) : wants (e.set W e.l) w = wants e w := by
 rw [wants4 (e := e.set W e.l) (by exact ho), wants4 ho]; rfl
theorem under_set (e : E) (W : Int) (ws : List Int) : underM (e.set W e.l) ws = if (runL (e.l.map size) ws).2 ≠ 0 then (zE, (runL (e.l.map size) ws).2) else (e.set W (runL (e.l.map size) ws).1, 0) := rfl
theorem size_under {e : E} {w : Int} (hb : ¬ (w = -1 ∧ 1 < own e)) (hn : ¬ (e.op = 1 ∧ e.w = 0)) (h8 : ¬ e.op = 8) {ws : List Int} (hw : wants e (wide e w) = some ws) : size e w = underM (e.set (wide e w) e.l) ws := by
 rw [size_some hb hn hw, under_set, sizeK]
 split
 ·rfl
 ·rw [if_neg (fun h => h8 h.1)]
theorem under_part {e : E} {W : Int} {ws : List Int} (h : (underM (e.set W e.l) ws).2 = 0) : underM (e.set W e.l) ws = (e.set W (runL (e.l.map size) ws).1, 0) ∧ (runL (e.l.map size) ws).2 = 0 := by
 rw [under_set] at h ⊢
 split at h
 ·rename_i q; simp only at h; exact (q h).elim
 ·rename_i q; rw [if_neg q]; exact ⟨rfl, by simpa using q⟩
theorem rf_Holds2 (w v : Int) (σ : Sig) (h0 : 0 ≤ w) (hv : U64 v) : ACalls Try.prog 79 [.int .i64 w, .int .u64 v] σ (fun r σ' => r = .ret (.bool (holds w v)) ∧ σ' = σ) := by
 by_cases h1 : w ≤ 9223372036854775807
 ·exact rf_Holds w v σ h0 h1 hv
 ·refine calls_x mixed Try.func79 b79 n79 rfl q79 (by simp) ?_; unfold c79 r79
  have hw : 64 ≤ w := by omega
  have hh : holds w v = true := by
   unfold holds
   rw [decide_eq_true_eq]
   have e : (2 : Int) ^ w.toNat = ((2 ^ w.toNat : Nat) : Int) := by simp
   have := Nat.pow_le_pow_right (n := 2) (by omega) (show 64 ≤ w.toNat by omega)
   have := hv.2
   rw [e]; omega
  repeat' simp (maxDischargeDepth := 9) -implicitDefEqProofs -dsimp only [go_sem, seval, ge_iff_le, *]
  refine fin_eq ?_
  (repeat' simp (maxDischargeDepth := 9) -implicitDefEqProofs -dsimp only [go_sem, seval, *])
set_option maxRecDepth 20000 in
set_option maxHeartbeats 4000000 in
theorem rf_sized (g : List Sg) (hg : SgOk g) (e : E) : ∀ (w : Int) (σ : Sig), shp g e = true → nodes e ≤ 16777216 → WfE e → 0 ≤ w → ACalls Try.prog 42 [encE e, .int .i64 w] σ (fun r σ' => r = .ret (.tup [encE (size e w).1, .int .i64 (size e w).2]) ∧ σ' = σ) := by
 refine E.ind (P := fun e => ∀ (w : Int) (σ : Sig), shp g e = true → nodes e ≤ 16777216 → WfE e → 0 ≤ w → ACalls Try.prog 42 [encE e, .int .i64 w] σ (fun r σ' => r = .ret (.tup [encE (size e w).1, .int .i64 (size e w).2]) ∧ σ' = σ)) (fun e ih w σ hs he hw h0 => ?_) e
 have h1 := encEs_eq e
 have l1 := len_nodes e
 have hown := fun τ => rf_own g hg e τ hs he
 have hon := own_nonneg hg e hs
 have hwp := wide_pos hon (show -1 ≤ w by omega)
 have hwd : ((w == 0) = false ∧ wide e w = w) ∨ (w = 0 ∧ (own e == 0) = false ∧ own e = wide e w) ∨ (w = 0 ∧ own e = 0 ∧ wide e w = 32) := by
  by_cases q : w = 0
  ·subst q
   rw [wide_zero, told]
   by_cases q2 : own e = 0
   ·exact .inr (.inr ⟨rfl, q2, by rw [if_pos q2]⟩)
   ·exact .inr (.inl ⟨rfl, by simp [q2], by rw [if_neg q2]⟩)
  ·exact .inl ⟨by simp [q], wide_of q (by omega)⟩
 have hbit : ¬ (w = -1 ∧ 1 < own e) := by omega
 have hv64 := ((WfE_iff e).1 hw).1.2.2.1
 have hh := fun τ h => rf_Holds2 (wide e w) e.v τ h hv64
 have hU := fun (h : e.l.length ≤ 16777216) ws τ (h2 : ws.length = e.l.length) (h3 : ∀ v ∈ ws, -1 ≤ v) => rf_under_step (e.set (wide e w) e.l) ws τ h h2 h3
  (fun p hp τ => rf_own g hg p τ (shp_part hs hp) (by have := part_nodes (e := e) hp; omega))
  (fun p hp v τ h => ih p hp v τ (shp_part hs hp) (by have := part_nodes (e := e) hp; omega) (((WfE_iff e).1 hw).2 p hp) h)
 replace hU := hU (by omega)
 have hN := fun ws τ h => rf_under_nil (e.set (wide e w) e.l) ws τ h
 have hei := fun (a : E) (ha : a ∈ e.l) (b : E) (hb : b ∈ e.l) τ => rf_either g hg a b (shp_part hs ha) (shp_part hs hb) (by have := part_nodes ha; omega) (by have := part_nodes hb; omega) τ
 have honp := fun (a : E) (ha : a ∈ e.l) => own_nonneg hg a (shp_part hs ha)
 obtain ⟨W, hW⟩ : ∃ W, wide e w = W := ⟨_, rfl⟩
 have hss := fun (ws : List Int) (q1 : ¬ (e.op = 1 ∧ e.w = 0)) (q2 : ¬ e.op = 8) (q3 : wants e W = some ws) => size_under hbit q1 q2 (by rw [hW]; exact q3)
 have hsn := fun (q1 : ¬ (e.op = 1 ∧ e.w = 0)) (q3 : wants e W = none) => size_none hbit q1 (by rw [hW]; exact q3)
 have hs8 := fun (ws : List Int) (q1 : ¬ (e.op = 1 ∧ e.w = 0)) (q3 : wants e W = some ws) => size_some hbit q1 (by rw [hW]; exact q3)
 have hs1 := fun (q1 : e.op = 1) (q2 : e.w = 0) => size_num hbit q1 q2
 rw [hW] at hwd hwp hh hU hN
 simp only [hW] at hss hs1
 have hwb : (W == 0) = false := by simp; omega
 have hnd := shp_nd hs
 clear ih hw hs hbit
 cases hnd with
 | sig ho h2 h3 h4 h5 =>
  have hn1 : ¬ (e.op = 1 ∧ e.w = 0) := by omega
  have hn8 : ¬ e.op = 8 := by omega
  have hwt := wants0 (e := e) (w := W) (by omega)
  replace hN := fun ws τ => hN ws τ h4
  simp only [encE_set] at hN
  obtain ⟨R, hR⟩ : ∃ R, size e w = R := ⟨_, rfl⟩
  rw [hR] at hsn hss ⊢
  have hN0 := fun τ => hN [0] τ
  have hss0 : own e = W → R = underM (e.set W e.l) [0] := fun h => by
   have := hss [] hn1 hn8 (by rw [hwt, if_neg (by omega), h4]; rfl)
   rw [this, under_set, under_set, h4]; rfl
  have hsn0 : own e ≠ W → R = (zE, 90) := fun h => hsn hn1 (by rw [hwt, if_pos h])
  obtain ⟨U, hU'⟩ : ∃ U, underM (e.set W e.l) [0] = U := ⟨_, rfl⟩
  rw [hU'] at hN0 hss0
  clear hU hei honp hss hsn hs8 hs1 hR hwt hN hU' hn1 hn8
  simp only [List.map_cons, List.map_nil] at hN0
  refine calls_x mixed Try.func42 b42 n42 rfl q42 (by simp) ?_; unfold c42 r42
  by_cases hq : own e = W
  ·have hqb : (own e != W) = false := by simp [hq]
   rw [hss0 hq]
   clear hss0 hsn0
   rw [hq] at hown hwd hqb
   clear hq
   rcases hwd with ⟨w1, w2⟩ | ⟨rfl, w2, w3⟩ | ⟨rfl, w2, w3⟩
   ·subst w2
    repeat' (first | simp (maxDischargeDepth := 9) -implicitDefEqProofs -dsimp only [go_sem, seval, *] | ((with_reducible refine Zt (fun oF hoF hnF hnF' => ?_)); (try simp only [upd_none, ne_eq, not_and] at hoF)) | ((with_reducible apply ACalls.one1); (focus ((first | with_reducible refine ACalls.flA (hown _) ?_ | with_reducible refine ACalls.flA (hN0 _) ?_) <;> (first | (simp (maxDischargeDepth := 9) -implicitDefEqProofs -dsimp only [go_sem, seval, *]; done) | omega))); (focus (first | trivial | with_reducible exact rfl | (simp (maxDischargeDepth := 9) -implicitDefEqProofs -dsimp only [go_sem, seval]; done)))))
    refine fin_eq ?_
    (repeat' simp (maxDischargeDepth := 9) -implicitDefEqProofs -dsimp only [go_sem, seval, *])
   ·repeat' (first | simp (maxDischargeDepth := 9) -implicitDefEqProofs -dsimp only [go_sem, seval, *] | ((with_reducible refine Zt (fun oF hoF hnF hnF' => ?_)); (try simp only [upd_none, ne_eq, not_and] at hoF)) | ((with_reducible apply ACalls.one1); (focus ((first | with_reducible refine ACalls.flA (hown _) ?_ | with_reducible refine ACalls.flA (hN0 _) ?_) <;> (first | (simp (maxDischargeDepth := 9) -implicitDefEqProofs -dsimp only [go_sem, seval, *]; done) | omega))); (focus (first | trivial | with_reducible exact rfl | (simp (maxDischargeDepth := 9) -implicitDefEqProofs -dsimp only [go_sem, seval]; done)))))
    refine fin_eq ?_
    (repeat' simp (maxDischargeDepth := 9) -implicitDefEqProofs -dsimp only [go_sem, seval, *])
   ·exfalso; omega
  ·have hqb : (own e != W) = true := by simp [hq]
   rw [hsn0 hq, encE_zero]
   clear hss0 hsn0 hN0
   obtain ⟨o, ho'⟩ : ∃ o, own e = o := ⟨_, rfl⟩
   rw [ho'] at hown hwd hqb hq
   clear ho'
   rcases hwd with ⟨w1, w2⟩ | ⟨rfl, w2, w3⟩ | ⟨rfl, w2, w3⟩
   ·subst w2
    repeat' (first | simp (maxDischargeDepth := 9) -implicitDefEqProofs -dsimp only [go_sem, seval, *] | ((with_reducible refine Zt (fun oF hoF hnF hnF' => ?_)); (try simp only [upd_none, ne_eq, not_and] at hoF)) | ((with_reducible apply ACalls.one1); (focus ((with_reducible refine ACalls.flA (hown _) ?_) <;> (first | (simp (maxDischargeDepth := 9) -implicitDefEqProofs -dsimp only [go_sem, seval, *]; done) | omega))); (focus (first | trivial | with_reducible exact rfl | (simp (maxDischargeDepth := 9) -implicitDefEqProofs -dsimp only [go_sem, seval]; done)))))
    refine fin_eq ?_
    (repeat' simp (maxDischargeDepth := 9) -implicitDefEqProofs -dsimp only [go_sem, seval, *])
   ·exact (hq w3).elim
   ·subst w2 w3
    clear hq
    repeat' (first | simp (maxDischargeDepth := 9) -implicitDefEqProofs -dsimp only [go_sem, seval, *] | ((with_reducible refine Zt (fun oF hoF hnF hnF' => ?_)); (try simp only [upd_none, ne_eq, not_and] at hoF)) | ((with_reducible apply ACalls.one1); (focus ((with_reducible refine ACalls.flA (hown _) ?_) <;> (first | (simp (maxDischargeDepth := 9) -implicitDefEqProofs -dsimp only [go_sem, seval, *]; done) | omega))); (focus (first | trivial | with_reducible exact rfl | (simp (maxDischargeDepth := 9) -implicitDefEqProofs -dsimp only [go_sem, seval]; done)))))
    refine fin_eq ?_
    (repeat' simp (maxDischargeDepth := 9) -implicitDefEqProofs -dsimp only [go_sem, seval, *])
 | idx ho h2 h3 h4 h5 a h6 h7 h8 =>
  have hn1 : ¬ (e.op = 1 ∧ e.w = 0) := by omega
  have hn8 : ¬ e.op = 8 := by omega
  have hle : e.l.length = 1 := by rw [h6]; rfl
  have hwt := wants0 (e := e) (w := W) (by omega)
  rw [hle] at hwt
  simp only [encE_set] at hU
  obtain ⟨R, hR⟩ : ∃ R, size e w = R := ⟨_, rfl⟩
  rw [hR] at hsn hss ⊢
  have hN0 := fun τ => hU [0] τ (by rw [hle]; rfl) (by simp)
  have hss0 : own e = W → R = underM (e.set W e.l) [0] := fun h => hss [0] hn1 hn8 (by rw [hwt, if_neg (by omega)]; rfl)
  have hsn0 : own e ≠ W → R = (zE, 90) := fun h => hsn hn1 (by rw [hwt, if_pos h])
  obtain ⟨U, hU'⟩ : ∃ U, underM (e.set W e.l) [0] = U := ⟨_, rfl⟩
  rw [hU'] at hN0 hss0
  obtain ⟨o, ho'⟩ : ∃ o, own e = o := ⟨_, rfl⟩
  rw [ho'] at hown hwd hss0 hsn0
  clear hU hei honp hss hsn hs8 hs1 hR hwt hN hU' hn1 hn8 h6 ho'
  simp only [List.map_cons, List.map_nil] at hN0
  refine calls_x mixed Try.func42 b42 n42 rfl q42 (by simp) ?_; unfold c42 r42
  by_cases hq : o = W
  ·have hqb : (o != W) = false := by simp [hq]
   rw [hss0 hq]
   clear hss0 hsn0 hqb
   subst hq
   rcases hwd with ⟨w1, w2⟩ | ⟨rfl, w2, w3⟩ | ⟨rfl, w2, w3⟩
   ·subst w2
    repeat' (first | simp (maxDischargeDepth := 9) -implicitDefEqProofs -dsimp only [go_sem, seval, *] | ((with_reducible refine Zt (fun oF hoF hnF hnF' => ?_)); (try simp only [upd_none, ne_eq, not_and] at hoF)) | ((with_reducible apply ACalls.one1); (focus ((first | with_reducible refine ACalls.flA (hown _) ?_ | with_reducible refine ACalls.flA (hN0 _) ?_) <;> (first | (simp (maxDischargeDepth := 9) -implicitDefEqProofs -dsimp only [go_sem, seval, *]; done) | omega))); (focus (first | trivial | with_reducible exact rfl | (simp (maxDischargeDepth := 9) -implicitDefEqProofs -dsimp only [go_sem, seval]; done)))))
    refine fin_eq ?_
    (repeat' simp (maxDischargeDepth := 9) -implicitDefEqProofs -dsimp only [go_sem, seval, *])
   ·repeat' (first | simp (maxDischargeDepth := 9) -implicitDefEqProofs -dsimp only [go_sem, seval, *] | ((with_reducible refine Zt (fun oF hoF hnF hnF' => ?_)); (try simp only [upd_none, ne_eq, not_and] at hoF)) | ((with_reducible apply ACalls.one1); (focus ((first | with_reducible refine ACalls.flA (hown _) ?_ | with_reducible refine ACalls.flA (hN0 _) ?_) <;> (first | (simp (maxDischargeDepth := 9) -implicitDefEqProofs -dsimp only [go_sem, seval, *]; done) | omega))); (focus (first | trivial | with_reducible exact rfl | (simp (maxDischargeDepth := 9) -implicitDefEqProofs -dsimp only [go_sem, seval]; done)))))
    refine fin_eq ?_
    (repeat' simp (maxDischargeDepth := 9) -implicitDefEqProofs -dsimp only [go_sem, seval, *])
   ·exfalso; omega
  ·have hqb : (o != W) = true := by simp [hq]
   rw [hsn0 hq, encE_zero]
   clear hss0 hsn0 hN0
   rcases hwd with ⟨w1, w2⟩ | ⟨rfl, w2, w3⟩ | ⟨rfl, w2, w3⟩
   ·subst w2
    clear hq
    repeat' (first | simp (maxDischargeDepth := 9) -implicitDefEqProofs -dsimp only [go_sem, seval, *] | ((with_reducible refine Zt (fun oF hoF hnF hnF' => ?_)); (try simp only [upd_none, ne_eq, not_and] at hoF)) | ((with_reducible apply ACalls.one1); (focus ((with_reducible refine ACalls.flA (hown _) ?_) <;> (first | (simp (maxDischargeDepth := 9) -implicitDefEqProofs -dsimp only [go_sem, seval, *]; done) | omega))); (focus (first | trivial | with_reducible exact rfl | (simp (maxDischargeDepth := 9) -implicitDefEqProofs -dsimp only [go_sem, seval]; done)))))
    refine fin_eq ?_
    (repeat' simp (maxDischargeDepth := 9) -implicitDefEqProofs -dsimp only [go_sem, seval, *])
   ·exact (hq w3).elim
   ·subst w2 w3
    clear hq
    repeat' (first | simp (maxDischargeDepth := 9) -implicitDefEqProofs -dsimp only [go_sem, seval, *] | ((with_reducible refine Zt (fun oF hoF hnF hnF' => ?_)); (try simp only [upd_none, ne_eq, not_and] at hoF)) | ((with_reducible apply ACalls.one1); (focus ((with_reducible refine ACalls.flA (hown _) ?_) <;> (first | (simp (maxDischargeDepth := 9) -implicitDefEqProofs -dsimp only [go_sem, seval, *]; done) | omega))); (focus (first | trivial | with_reducible exact rfl | (simp (maxDischargeDepth := 9) -implicitDefEqProofs -dsimp only [go_sem, seval]; done)))))
    refine fin_eq ?_
    (repeat' simp (maxDischargeDepth := 9) -implicitDefEqProofs -dsimp only [go_sem, seval, *])
 | un ho h2 h3 h4 h5 a h6 h7 h8 =>
  have hn1 : ¬ (e.op = 1 ∧ e.w = 0) := by omega
  have hn8 : ¬ e.op = 8 := by omega
  have hst : ∀ τ, ACalls Try.prog 81 [encE (e.set W e.l), .int .i64 W] τ (fun r σ' => r = .ret (.tup [encE (size e w).1, .int .i64 (size e w).2]) ∧ σ' = τ) := fun τ => by
   have h := rf_unary_step (e.set W e.l) W τ ho h7 h8 (by rw [set_l, h6]; rfl) (fun ws τ h h2 => hU ws τ h h2) (by omega)
   rw [wants_set (by omega)] at h
   cases hx : wants e W with
   | none => rw [hx] at h; rw [hsn hn1 hx]; exact h
   | some ws => rw [hx] at h; rw [hss ws hn1 hn8 hx]; exact h
  simp only [encE_set] at hst
  obtain ⟨R, hR⟩ : ∃ R, size e w = R := ⟨_, rfl⟩
  rw [hR] at hst ⊢
  obtain ⟨o, ho'⟩ : ∃ o, own e = o := ⟨_, rfl⟩
  rw [ho'] at hown hwd
  clear hU hei honp hss hsn hs8 hs1 hR hN hn1 hn8 ho'
  refine calls_x mixed Try.func42 b42 n42 rfl q42 (by simp) ?_; unfold c42 r42
  rcases hwd with ⟨w1, w2⟩ | ⟨rfl, w2, w3⟩ | ⟨rfl, w2, w3⟩
  ·subst w2
   repeat' (first | simp (maxDischargeDepth := 9) -implicitDefEqProofs -dsimp only [go_sem, seval, *] | ((with_reducible refine Zt (fun oF hoF hnF hnF' => ?_)); (try simp only [upd_none, ne_eq, not_and] at hoF)) | ((with_reducible apply ACalls.one1); (focus ((with_reducible refine ACalls.flA (hst _) ?_) <;> (first | (simp (maxDischargeDepth := 9) -implicitDefEqProofs -dsimp only [go_sem, seval, *]; done) | omega))); (focus (first | trivial | with_reducible exact rfl | (simp (maxDischargeDepth := 9) -implicitDefEqProofs -dsimp only [go_sem, seval]; done)))))
   refine fin_eq ?_
   (repeat' simp (maxDischargeDepth := 9) -implicitDefEqProofs -dsimp only [go_sem, seval, *])
  ·repeat' (first | simp (maxDischargeDepth := 9) -implicitDefEqProofs -dsimp only [go_sem, seval, *] | ((with_reducible refine Zt (fun oF hoF hnF hnF' => ?_)); (try simp only [upd_none, ne_eq, not_and] at hoF)) | ((with_reducible apply ACalls.one1); (focus ((first | with_reducible refine ACalls.flA (hown _) ?_ | with_reducible refine ACalls.flA (hst _) ?_) <;> (first | (simp (maxDischargeDepth := 9) -implicitDefEqProofs -dsimp only [go_sem, seval, *]; done) | omega))); (focus (first | trivial | with_reducible exact rfl | (simp (maxDischargeDepth := 9) -implicitDefEqProofs -dsimp only [go_sem, seval]; done)))))
   refine fin_eq ?_
   (repeat' simp (maxDischargeDepth := 9) -implicitDefEqProofs -dsimp only [go_sem, seval, *])
  ·repeat' (first | simp (maxDischargeDepth := 9) -implicitDefEqProofs -dsimp only [go_sem, seval, *] | ((with_reducible refine Zt (fun oF hoF hnF hnF' => ?_)); (try simp only [upd_none, ne_eq, not_and] at hoF)) | ((with_reducible apply ACalls.one1); (focus ((first | with_reducible refine ACalls.flA (hown _) ?_ | with_reducible refine ACalls.flA (hst _) ?_) <;> (first | (simp (maxDischargeDepth := 9) -implicitDefEqProofs -dsimp only [go_sem, seval, *]; done) | omega))); (focus (first | trivial | with_reducible exact rfl | (simp (maxDischargeDepth := 9) -implicitDefEqProofs -dsimp only [go_sem, seval]; done)))))
   refine fin_eq ?_
   (repeat' simp (maxDischargeDepth := 9) -implicitDefEqProofs -dsimp only [go_sem, seval, *])
 | bin ho h2 h3 h4 h5 a b h6 h7 h8 =>
  have hn1 : ¬ (e.op = 1 ∧ e.w = 0) := by omega
  have hn8 : ¬ e.op = 8 := by omega
  have hst : ∀ τ, ACalls Try.prog 82 [encE (e.set W e.l), .int .i64 W] τ (fun r σ' => r = .ret (.tup [encE (size e w).1, .int .i64 (size e w).2]) ∧ σ' = τ) := fun τ => by
   have h := rf_binary_step (e.set W e.l) W τ ho h7 h8 (by rw [set_l, h6]; rfl) (fun ws τ h h2 => hU ws τ h h2) (by omega) hei honp
   rw [wants_set (by omega)] at h
   cases hx : wants e W with
   | none => rw [hx] at h; rw [hsn hn1 hx]; exact h
   | some ws => rw [hx] at h; rw [hss ws hn1 hn8 hx]; exact h
  simp only [encE_set] at hst
  obtain ⟨R, hR⟩ : ∃ R, size e w = R := ⟨_, rfl⟩
  rw [hR] at hst ⊢
  obtain ⟨o, ho'⟩ : ∃ o, own e = o := ⟨_, rfl⟩
  rw [ho'] at hown hwd
  clear hU hei honp hss hsn hs8 hs1 hR hN hn1 hn8 ho'
  refine calls_x mixed Try.func42 b42 n42 rfl q42 (by simp) ?_; unfold c42 r42
  rcases hwd with ⟨w1, w2⟩ | ⟨rfl, w2, w3⟩ | ⟨rfl, w2, w3⟩
  ·subst w2
   repeat' (first | simp (maxDischargeDepth := 9) -implicitDefEqProofs -dsimp only [go_sem, seval, *] | ((with_reducible refine Zt (fun oF hoF hnF hnF' => ?_)); (try simp only [upd_none, ne_eq, not_and] at hoF)) | ((with_reducible apply ACalls.one1); (focus ((with_reducible refine ACalls.flA (hst _) ?_) <;> (first | (simp (maxDischargeDepth := 9) -implicitDefEqProofs -dsimp only [go_sem, seval, *]; done) | omega))); (focus (first | trivial | with_reducible exact rfl | (simp (maxDischargeDepth := 9) -implicitDefEqProofs -dsimp only [go_sem, seval]; done)))))
   refine fin_eq ?_
   (repeat' simp (maxDischargeDepth := 9) -implicitDefEqProofs -dsimp only [go_sem, seval, *])
  ·repeat' (first | simp (maxDischargeDepth := 9) -implicitDefEqProofs -dsimp only [go_sem, seval, *] | ((with_reducible refine Zt (fun oF hoF hnF hnF' => ?_)); (try simp only [upd_none, ne_eq, not_and] at hoF)) | ((with_reducible apply ACalls.one1); (focus ((first | with_reducible refine ACalls.flA (hown _) ?_ | with_reducible refine ACalls.flA (hst _) ?_) <;> (first | (simp (maxDischargeDepth := 9) -implicitDefEqProofs -dsimp only [go_sem, seval, *]; done) | omega))); (focus (first | trivial | with_reducible exact rfl | (simp (maxDischargeDepth := 9) -implicitDefEqProofs -dsimp only [go_sem, seval]; done)))))
   refine fin_eq ?_
   (repeat' simp (maxDischargeDepth := 9) -implicitDefEqProofs -dsimp only [go_sem, seval, *])
  ·repeat' (first | simp (maxDischargeDepth := 9) -implicitDefEqProofs -dsimp only [go_sem, seval, *] | ((with_reducible refine Zt (fun oF hoF hnF hnF' => ?_)); (try simp only [upd_none, ne_eq, not_and] at hoF)) | ((with_reducible apply ACalls.one1); (focus ((first | with_reducible refine ACalls.flA (hown _) ?_ | with_reducible refine ACalls.flA (hst _) ?_) <;> (first | (simp (maxDischargeDepth := 9) -implicitDefEqProofs -dsimp only [go_sem, seval, *]; done) | omega))); (focus (first | trivial | with_reducible exact rfl | (simp (maxDischargeDepth := 9) -implicitDefEqProofs -dsimp only [go_sem, seval]; done)))))
   refine fin_eq ?_
   (repeat' simp (maxDischargeDepth := 9) -implicitDefEqProofs -dsimp only [go_sem, seval, *])
 | cond ho h2 h3 h4 h5 h7 a b c h6 =>
  have hn1 : ¬ (e.op = 1 ∧ e.w = 0) := by omega
  have hn8 : ¬ e.op = 8 := by omega
  have hst := fun τ => hU [-1, W, W] τ (by rw [h6]; rfl) (by simp; omega)
  rw [← hss [-1, W, W] hn1 hn8 (wants6 ho)] at hst
  simp only [encE_set, List.map_cons, List.map_nil] at hst
  obtain ⟨R, hR⟩ : ∃ R, size e w = R := ⟨_, rfl⟩
  rw [hR] at hst ⊢
  obtain ⟨o, ho'⟩ : ∃ o, own e = o := ⟨_, rfl⟩
  rw [ho'] at hown hwd
  clear hU hei honp hss hsn hs8 hs1 hR hN hn1 hn8 ho' h6
  refine calls_x mixed Try.func42 b42 n42 rfl q42 (by simp) ?_; unfold c42 r42
  rcases hwd with ⟨w1, w2⟩ | ⟨rfl, w2, w3⟩ | ⟨rfl, w2, w3⟩
  ·subst w2
   repeat' (first | simp (maxDischargeDepth := 9) -implicitDefEqProofs -dsimp only [go_sem, seval, *] | ((with_reducible refine Zt (fun oF hoF hnF hnF' => ?_)); (try simp only [upd_none, ne_eq, not_and] at hoF)) | ((with_reducible apply ACalls.one1); (focus ((with_reducible refine ACalls.flA (hst _) ?_) <;> (first | (simp (maxDischargeDepth := 9) -implicitDefEqProofs -dsimp only [go_sem, seval, *]; done) | omega))); (focus (first | trivial | with_reducible exact rfl | (simp (maxDischargeDepth := 9) -implicitDefEqProofs -dsimp only [go_sem, seval]; done)))))
   refine fin_eq ?_
   (repeat' simp (maxDischargeDepth := 9) -implicitDefEqProofs -dsimp only [go_sem, seval, *])
  ·repeat' (first | simp (maxDischargeDepth := 9) -implicitDefEqProofs -dsimp only [go_sem, seval, *] | ((with_reducible refine Zt (fun oF hoF hnF hnF' => ?_)); (try simp only [upd_none, ne_eq, not_and] at hoF)) | ((with_reducible apply ACalls.one1); (focus ((first | with_reducible refine ACalls.flA (hown _) ?_ | with_reducible refine ACalls.flA (hst _) ?_) <;> (first | (simp (maxDischargeDepth := 9) -implicitDefEqProofs -dsimp only [go_sem, seval, *]; done) | omega))); (focus (first | trivial | with_reducible exact rfl | (simp (maxDischargeDepth := 9) -implicitDefEqProofs -dsimp only [go_sem, seval]; done)))))
   refine fin_eq ?_
   (repeat' simp (maxDischargeDepth := 9) -implicitDefEqProofs -dsimp only [go_sem, seval, *])
  ·repeat' (first | simp (maxDischargeDepth := 9) -implicitDefEqProofs -dsimp only [go_sem, seval, *] | ((with_reducible refine Zt (fun oF hoF hnF hnF' => ?_)); (try simp only [upd_none, ne_eq, not_and] at hoF)) | ((with_reducible apply ACalls.one1); (focus ((first | with_reducible refine ACalls.flA (hown _) ?_ | with_reducible refine ACalls.flA (hst _) ?_) <;> (first | (simp (maxDischargeDepth := 9) -implicitDefEqProofs -dsimp only [go_sem, seval, *]; done) | omega))); (focus (first | trivial | with_reducible exact rfl | (simp (maxDischargeDepth := 9) -implicitDefEqProofs -dsimp only [go_sem, seval]; done)))))
   refine fin_eq ?_
   (repeat' simp (maxDischargeDepth := 9) -implicitDefEqProofs -dsimp only [go_sem, seval, *])
 | num ho h2 h3 h4 h5 h6 h7 h8 h9 =>
  have ho1 : own e = e.w := own1 ho
  rw [ho1] at hown hwd
  have hn8 : ¬ e.op = 8 := by omega
  have hwt := wants0 (e := e) (w := W) (.inl ho)
  rw [ho1] at hwt
  clear hU hei honp hs8 hN
  by_cases hz : e.w = 0
  ·rw [hs1 ho hz]
   obtain ⟨b, hb⟩ : ∃ b, holds W e.v = b := ⟨_, rfl⟩
   rw [hb] at hh ⊢
   have hwd' : ((w == 0) = false ∧ W = w) ∨ (w = 0 ∧ W = 32) := by
    rcases hwd with q | ⟨_, q, _⟩ | ⟨q, _, q2⟩
    ·exact .inl q
    ·rw [hz] at q; simp at q
    ·exact .inr ⟨q, q2⟩
   rw [hz] at hown
   clear hss hsn hs1 hb hwd h9 ho1 hwt
   refine calls_x mixed Try.func42 b42 n42 rfl q42 (by simp) ?_; unfold c42 r42
   cases b
   ·rw [if_neg (by simp), encE_zero]
    rcases hwd' with ⟨w1, w2⟩ | ⟨w1, w2⟩
    ·subst w2
     repeat' (first | simp (maxDischargeDepth := 9) -implicitDefEqProofs -dsimp only [go_sem, seval, *] | ((with_reducible refine Zt (fun oF hoF hnF hnF' => ?_)); (try simp only [upd_none, ne_eq, not_and] at hoF)) | ((with_reducible apply ACalls.one1); (focus ((with_reducible refine hh _ ?_) <;> (first | (simp (maxDischargeDepth := 9) -implicitDefEqProofs -dsimp only [go_sem, seval, *]; done) | omega))); (focus (first | trivial | with_reducible exact rfl | (simp (maxDischargeDepth := 9) -implicitDefEqProofs -dsimp only [go_sem, seval]; done)))))
     refine fin_eq ?_
     (repeat' simp (maxDischargeDepth := 9) -implicitDefEqProofs -dsimp only [go_sem, seval, List.map_nil, *])
    ·subst w1 w2
     repeat' (first | simp (maxDischargeDepth := 9) -implicitDefEqProofs -dsimp only [go_sem, seval, *] | ((with_reducible refine Zt (fun oF hoF hnF hnF' => ?_)); (try simp only [upd_none, ne_eq, not_and] at hoF)) | ((with_reducible apply ACalls.one1); (focus ((first | with_reducible refine hh _ ?_ | with_reducible refine ACalls.flA (hown _) ?_) <;> (first | (simp (maxDischargeDepth := 9) -implicitDefEqProofs -dsimp only [go_sem, seval, *]; done) | omega))); (focus (first | trivial | with_reducible exact rfl | (simp (maxDischargeDepth := 9) -implicitDefEqProofs -dsimp only [go_sem, seval]; done)))))
     refine fin_eq ?_
     (repeat' simp (maxDischargeDepth := 9) -implicitDefEqProofs -dsimp only [go_sem, seval, List.map_nil, *])
   ·rw [if_pos rfl, encE_num]
    rcases hwd' with ⟨w1, w2⟩ | ⟨w1, w2⟩
    ·subst w2
     repeat' (first | simp (maxDischargeDepth := 9) -implicitDefEqProofs -dsimp only [go_sem, seval, *] | ((with_reducible refine Zt (fun oF hoF hnF hnF' => ?_)); (try simp only [upd_none, ne_eq, not_and] at hoF)) | ((with_reducible apply ACalls.one1); (focus ((with_reducible refine hh _ ?_) <;> (first | (simp (maxDischargeDepth := 9) -implicitDefEqProofs -dsimp only [go_sem, seval, *]; done) | omega))); (focus (first | trivial | with_reducible exact rfl | (simp (maxDischargeDepth := 9) -implicitDefEqProofs -dsimp only [go_sem, seval]; done)))))
     refine fin_eq ?_
     (repeat' simp (maxDischargeDepth := 9) -implicitDefEqProofs -dsimp only [go_sem, seval, List.map_nil, *])
    ·subst w1 w2
     repeat' (first | simp (maxDischargeDepth := 9) -implicitDefEqProofs -dsimp only [go_sem, seval, *] | ((with_reducible refine Zt (fun oF hoF hnF hnF' => ?_)); (try simp only [upd_none, ne_eq, not_and] at hoF)) | ((with_reducible apply ACalls.one1); (focus ((first | with_reducible refine hh _ ?_ | with_reducible refine ACalls.flA (hown _) ?_) <;> (first | (simp (maxDischargeDepth := 9) -implicitDefEqProofs -dsimp only [go_sem, seval, *]; done) | omega))); (focus (first | trivial | with_reducible exact rfl | (simp (maxDischargeDepth := 9) -implicitDefEqProofs -dsimp only [go_sem, seval]; done)))))
     refine fin_eq ?_
     (repeat' simp (maxDischargeDepth := 9) -implicitDefEqProofs -dsimp only [go_sem, seval, List.map_nil, *])
  ·have hn1 : ¬ (e.op = 1 ∧ e.w = 0) := fun h => hz h.2
   have hzb : (e.w != 0) = true := by simpa using hz
   have hzb2 : (e.w == 0) = false := by simpa using hz
   have hwd' : ((w == 0) = false ∧ W = w) ∨ (w = 0 ∧ e.w = W) := by
    rcases hwd with q | ⟨q, _, q2⟩ | ⟨_, q, _⟩
    ·exact .inl q
    ·exact .inr ⟨q, q2⟩
    ·exact (hz q).elim
   by_cases hq : e.w = W
   ·have hv := hss [] hn1 hn8 (by rw [hwt, if_neg (by omega), h6]; rfl)
    rw [under_set, h6] at hv
    have hv2 : size e w = (e.set W [], 0) := by rw [hv]; rfl
    rw [hv2, encE_set]
    have hqb : (e.w != W) = false := by simp [hq]
    rw [hq] at hown hzb hzb2 hqb hwd'
    clear hss hsn hs1 hwd h9 ho1 hwt hv hv2 hz h7 h8 hn1
    refine calls_x mixed Try.func42 b42 n42 rfl q42 (by simp) ?_; unfold c42 r42
    rcases hwd' with ⟨w1, w2⟩ | ⟨w1, w2⟩
    ·subst w2
     repeat' (first | simp (maxDischargeDepth := 9) -implicitDefEqProofs -dsimp only [go_sem, seval, *] | ((with_reducible refine Zt (fun oF hoF hnF hnF' => ?_)); (try simp only [upd_none, ne_eq, not_and] at hoF)))
     refine fin_eq ?_
     (repeat' simp (maxDischargeDepth := 9) -implicitDefEqProofs -dsimp only [go_sem, seval, List.map_nil, *])
    ·subst w1
     repeat' (first | simp (maxDischargeDepth := 9) -implicitDefEqProofs -dsimp only [go_sem, seval, *] | ((with_reducible refine Zt (fun oF hoF hnF hnF' => ?_)); (try simp only [upd_none, ne_eq, not_and] at hoF)) | ((with_reducible apply ACalls.one1); (focus ((with_reducible refine ACalls.flA (hown _) ?_) <;> (first | (simp (maxDischargeDepth := 9) -implicitDefEqProofs -dsimp only [go_sem, seval, *]; done) | omega))); (focus (first | trivial | with_reducible exact rfl | (simp (maxDischargeDepth := 9) -implicitDefEqProofs -dsimp only [go_sem, seval]; done)))))
     refine fin_eq ?_
     (repeat' simp (maxDischargeDepth := 9) -implicitDefEqProofs -dsimp only [go_sem, seval, List.map_nil, *])
   ·rw [hsn hn1 (by rw [hwt, if_pos hq]), encE_zero]
    have hqb : (e.w != W) = true := by simp [hq]
    clear hss hsn hs1 hwd h9 ho1 hwt hz h7 h8 hn1
    refine calls_x mixed Try.func42 b42 n42 rfl q42 (by simp) ?_; unfold c42 r42
    rcases hwd' with ⟨w1, w2⟩ | ⟨w1, w2⟩
    ·subst w2
     clear hq
     repeat' (first | simp (maxDischargeDepth := 9) -implicitDefEqProofs -dsimp only [go_sem, seval, *] | ((with_reducible refine Zt (fun oF hoF hnF hnF' => ?_)); (try simp only [upd_none, ne_eq, not_and] at hoF)))
     refine fin_eq ?_
     (repeat' simp (maxDischargeDepth := 9) -implicitDefEqProofs -dsimp only [go_sem, seval, List.map_nil, *])
    ·exact (hq w2).elim
 | cat ho h2 h3 h4 h5 h7 h6 =>
  have hn1 : ¬ (e.op = 1 ∧ e.w = 0) := by omega
  have hn8 : ¬ e.op = 8 := by omega
  have hwt := wants7 (e := e) (w := W) ho
  obtain ⟨o, ho'⟩ : ∃ o, own e = o := ⟨_, rfl⟩
  rw [ho'] at hown hwd hwt
  clear hs8 hs1 hN hei honp
  by_cases hbad : o = 0 ∨ o ≠ W ∨ 64 < o
  ·rw [hsn hn1 (by rw [hwt, if_pos hbad]), encE_zero]
   clear hss hsn hU hwt hn1 hn8 ho'
   have hc : (o == 0) = true ∨ ((o == 0) = false ∧ (o != W) = true) ∨ ((o == 0) = false ∧ (o != W) = false ∧ 64 < o) := by
    by_cases q : o = 0
    ·exact .inl (by simp [q])
    ·by_cases q2 : o = W
     ·exact .inr (.inr ⟨by simp [q], by simp [q2], by omega⟩)
     ·exact .inr (.inl ⟨by simp [q], by simp [q2]⟩)
   clear hbad
   refine calls_x mixed Try.func42 b42 n42 rfl q42 (by simp) ?_; unfold c42 r42
   rcases hwd with ⟨w1, w2⟩ | ⟨rfl, w2, w3⟩ | ⟨rfl, w2, w3⟩
   ·subst w2
    rcases hc with c | ⟨c, c2⟩ | ⟨c, c2, c3⟩
    all_goals
     repeat' (first | simp (maxDischargeDepth := 9) -implicitDefEqProofs -dsimp only [go_sem, seval, gt_iff_lt, *] | ((with_reducible refine Zt (fun oF hoF hnF hnF' => ?_)); (try simp only [upd_none, ne_eq, not_and] at hoF)) | ((with_reducible apply ACalls.one1); (focus ((with_reducible refine ACalls.flA (hown _) ?_) <;> (first | (simp (maxDischargeDepth := 9) -implicitDefEqProofs -dsimp only [go_sem, seval, *]; done) | omega))); (focus (first | trivial | with_reducible exact rfl | (simp (maxDischargeDepth := 9) -implicitDefEqProofs -dsimp only [go_sem, seval]; done)))))
     refine fin_eq ?_
     (repeat' simp (maxDischargeDepth := 9) -implicitDefEqProofs -dsimp only [go_sem, seval, *])
   ·rcases hc with c | ⟨c, c2⟩ | ⟨c, c2, c3⟩
    ·rw [w2] at c; simp at c
    ·rw [w3] at c2; simp at c2
    ·subst w3
     repeat' (first | simp (maxDischargeDepth := 9) -implicitDefEqProofs -dsimp only [go_sem, seval, gt_iff_lt, *] | ((with_reducible refine Zt (fun oF hoF hnF hnF' => ?_)); (try simp only [upd_none, ne_eq, not_and] at hoF)) | ((with_reducible apply ACalls.one1); (focus ((with_reducible refine ACalls.flA (hown _) ?_) <;> (first | (simp (maxDischargeDepth := 9) -implicitDefEqProofs -dsimp only [go_sem, seval, *]; done) | omega))); (focus (first | trivial | with_reducible exact rfl | (simp (maxDischargeDepth := 9) -implicitDefEqProofs -dsimp only [go_sem, seval]; done)))))
     refine fin_eq ?_
     (repeat' simp (maxDischargeDepth := 9) -implicitDefEqProofs -dsimp only [go_sem, seval, *])
   ·subst w2
    repeat' (first | simp (maxDischargeDepth := 9) -implicitDefEqProofs -dsimp only [go_sem, seval, gt_iff_lt, *] | ((with_reducible refine Zt (fun oF hoF hnF hnF' => ?_)); (try simp only [upd_none, ne_eq, not_and] at hoF)) | ((with_reducible apply ACalls.one1); (focus ((with_reducible refine ACalls.flA (hown _) ?_) <;> (first | (simp (maxDischargeDepth := 9) -implicitDefEqProofs -dsimp only [go_sem, seval, *]; done) | omega))); (focus (first | trivial | with_reducible exact rfl | (simp (maxDischargeDepth := 9) -implicitDefEqProofs -dsimp only [go_sem, seval]; done)))))
    refine fin_eq ?_
    (repeat' simp (maxDischargeDepth := 9) -implicitDefEqProofs -dsimp only [go_sem, seval, *])
  ·have q1 : o ≠ 0 := fun h => hbad (.inl h)
   have q2 : o = W := by omega
   have q3 : ¬ 64 < o := by omega
   have hU0 := fun τ => hU (List.replicate e.l.length 0) τ (by simp) (fun v hv => by have := (List.mem_replicate.1 hv).2; omega)
   rw [← hss _ hn1 hn8 (by rw [hwt, if_neg hbad])] at hU0
   simp only [encE_set] at hU0
   obtain ⟨R, hR⟩ : ∃ R, size e w = R := ⟨_, rfl⟩
   rw [hR] at hU0 ⊢
   have hrep : ∀ n : Nat, List.replicate n (AV.int .i64 0) = (List.replicate n (0 : Int)).map encInt := fun n => by simp
   subst q2
   clear hss hsn hU hwt hn1 hn8 ho' hbad hR
   refine calls_x mixed Try.func42 b42 n42 rfl q42 (by simp) ?_; unfold c42 r42
   rcases hwd with ⟨w1, w2⟩ | ⟨rfl, w2, w3⟩ | ⟨rfl, w2, w3⟩
   ·subst w2
    repeat' (first | simp (maxDischargeDepth := 9) -implicitDefEqProofs -dsimp only [go_sem, seval, gt_iff_lt, *] | ((with_reducible refine Zv ?_ ?_); focus (first | omega | exact rfl)) | ((with_reducible refine Zt (fun oF hoF hnF hnF' => ?_)); (try simp only [upd_none, ne_eq, not_and] at hoF)) | ((with_reducible apply ACalls.one1); (focus ((with_reducible refine ACalls.flA (hown _) ?_) <;> (first | (simp (maxDischargeDepth := 9) -implicitDefEqProofs -dsimp only [go_sem, seval, *]; done) | omega))); (focus (first | trivial | with_reducible exact rfl | (simp (maxDischargeDepth := 9) -implicitDefEqProofs -dsimp only [go_sem, seval]; done)))) | ((with_reducible apply id_one0); (focus (intro tS hS; ((with_reducible refine ACalls.flA (hU0 _) ?_) <;> (first | (simp (maxDischargeDepth := 9) -implicitDefEqProofs -dsimp only [go_sem, seval, *]; done) | omega | ((with_reducible refine Sub.get hS ?_); simp (maxDischargeDepth := 9) -implicitDefEqProofs -dsimp only [go_sem, seval, *]; done))))); (focus (first | trivial | (simp (maxDischargeDepth := 9) -implicitDefEqProofs -dsimp only [go_sem, seval, *]; done)))))
    refine fin_eq ?_
    (repeat' simp (maxDischargeDepth := 9) -implicitDefEqProofs -dsimp only [go_sem, seval, *])
   ·repeat' (first | simp (maxDischargeDepth := 9) -implicitDefEqProofs -dsimp only [go_sem, seval, gt_iff_lt, *] | ((with_reducible refine Zv ?_ ?_); focus (first | omega | exact rfl)) | ((with_reducible refine Zt (fun oF hoF hnF hnF' => ?_)); (try simp only [upd_none, ne_eq, not_and] at hoF)) | ((with_reducible apply ACalls.one1); (focus ((with_reducible refine ACalls.flA (hown _) ?_) <;> (first | (simp (maxDischargeDepth := 9) -implicitDefEqProofs -dsimp only [go_sem, seval, *]; done) | omega))); (focus (first | trivial | with_reducible exact rfl | (simp (maxDischargeDepth := 9) -implicitDefEqProofs -dsimp only [go_sem, seval]; done)))) | ((with_reducible apply id_one0); (focus (intro tS hS; ((with_reducible refine ACalls.flA (hU0 _) ?_) <;> (first | (simp (maxDischargeDepth := 9) -implicitDefEqProofs -dsimp only [go_sem, seval, *]; done) | omega | ((with_reducible refine Sub.get hS ?_); simp (maxDischargeDepth := 9) -implicitDefEqProofs -dsimp only [go_sem, seval, *]; done))))); (focus (first | trivial | (simp (maxDischargeDepth := 9) -implicitDefEqProofs -dsimp only [go_sem, seval, *]; done)))))
    refine fin_eq ?_
    (repeat' simp (maxDischargeDepth := 9) -implicitDefEqProofs -dsimp only [go_sem, seval, *])
   ·exact (q1 w2).elim
 | ext ho h2 h3 h4 h5 a h6 h7 h8 h9 h10 =>
  have ho1 : own e = e.w := own8 ho
  rw [ho1] at hown hwd
  have hn1 : ¬ (e.op = 1 ∧ e.w = 0) := by omega
  have hle : e.l.length = 1 := by rw [h6]; rfl
  have hwt := wants0 (e := e) (w := W) (by omega)
  rw [ho1, hle] at hwt
  have hwd' : ((w == 0) = false ∧ W = w) ∨ (w = 0 ∧ (e.w == 0) = false ∧ e.w = W) := by
   rcases hwd with q | ⟨q, q1, q2⟩ | ⟨_, q, _⟩
   ·exact .inl q
   ·exact .inr ⟨q, q1, q2⟩
   ·omega
  clear hei honp hs1 hN hss hwd
  by_cases hq : e.w = W
  ·have hqb : (e.w != W) = false := by simp [hq]
   have hv := hs8 [0] hn1 (by rw [hwt, if_neg (by omega)]; rfl)
   have hU0 := fun τ => hU [0] τ (by rw [hle]; rfl) (by simp)
   have hus := under_set e W [0]
   have hup := under_part (e := e) (W := W) (ws := [0])
   have hlen : (underM (e.set W e.l) [0]).2 = 0 → ∃ x, (runL (e.l.map size) [0]).1 = [x] := fun h => by
    obtain ⟨k1, _⟩ := runL_ok e.l [0] (by rw [hle]; rfl) (hup h).2
    exact len1 (by rw [k1, hle])
   rw [sizeK] at hv
   simp only [encE_set] at hU0
   simp only [hW] at hv
   clear hU hs8 hsn hwt hn1
   obtain ⟨U, hU'⟩ : ∃ U, underM (e.set W e.l) [0] = U := ⟨_, rfl⟩
   rw [hU'] at hU0 hus hup hlen
   obtain ⟨R, hR⟩ : ∃ R, runL (e.l.map size) [0] = R := ⟨_, rfl⟩
   rw [hR] at hv hus hup hlen
   clear hU' hR
   by_cases hf : U.2 = 0
   ·obtain ⟨k1, k2⟩ := hup hf
    obtain ⟨x, hx⟩ := hlen hf
    rw [k1] at hU0
    rw [if_neg (by omega)] at hv
    rw [hx] at hv hU0
    have hp0 : part0 [x] = x.w := rfl
    have hx8 : encEs (e.set W [x]) = [encE x] := by rw [encEs_eq]; rfl
    rw [hp0] at hv
    simp only [encE_set, List.map_cons, List.map_nil] at hU0
    clear hus hup hlen k1 k2 hx hp0 hf
    rw [hq] at hown hqb hwd'
    by_cases hbad : e.n = 33 ∧ x.w < W ∨ e.n ≠ 33 ∧ W < x.w
    ·rw [if_pos ⟨ho, hbad⟩] at hv
     rw [hv, encE_zero]
     clear hv hW
     refine calls_x mixed Try.func42 b42 n42 rfl q42 (by simp) ?_; unfold c42 r42
     rcases hwd' with ⟨w1, w2⟩ | ⟨rfl, w2, w3⟩
     ·subst w2
      repeat' (first | simp (maxDischargeDepth := 9) -implicitDefEqProofs -dsimp only [go_sem, seval, gt_iff_lt, List.getElem?_cons_zero, set_op, set_w, set_v, set_sig, set_hi, set_lo, set_n, *] | (with_reducible (first | apply Zb | apply Zc | apply Zd | apply Zg) <;> intro hq) | ((with_reducible refine Zt (fun oF hoF hnF hnF' => ?_)); (try simp only [upd_none, ne_eq, not_and] at hoF)) | ((with_reducible apply ACalls.one1); (focus ((with_reducible refine ACalls.flA (hU0 _) ?_) <;> (first | (simp (maxDischargeDepth := 9) -implicitDefEqProofs -dsimp only [go_sem, seval, *]; done) | omega))); (focus (first | trivial | with_reducible exact rfl | (simp (maxDischargeDepth := 9) -implicitDefEqProofs -dsimp only [go_sem, seval]; done)))))
      all_goals first | (exfalso; omega) | skip
      all_goals
       refine fin_eq ?_
       (repeat' simp (maxDischargeDepth := 9) -implicitDefEqProofs -dsimp only [go_sem, seval, *])
     ·repeat' (first | simp (maxDischargeDepth := 9) -implicitDefEqProofs -dsimp only [go_sem, seval, gt_iff_lt, List.getElem?_cons_zero, set_op, set_w, set_v, set_sig, set_hi, set_lo, set_n, *] | (with_reducible (first | apply Zb | apply Zc | apply Zd | apply Zg) <;> intro hq) | ((with_reducible refine Zt (fun oF hoF hnF hnF' => ?_)); (try simp only [upd_none, ne_eq, not_and] at hoF)) | ((with_reducible apply ACalls.one1); (focus ((first | with_reducible refine ACalls.flA (hown _) ?_ | with_reducible refine ACalls.flA (hU0 _) ?_) <;> (first | (simp (maxDischargeDepth := 9) -implicitDefEqProofs -dsimp only [go_sem, seval, *]; done) | omega))); (focus (first | trivial | with_reducible exact rfl | (simp (maxDischargeDepth := 9) -implicitDefEqProofs -dsimp only [go_sem, seval]; done)))))
      all_goals first | (exfalso; omega) | skip
      all_goals
       refine fin_eq ?_
       (repeat' simp (maxDischargeDepth := 9) -implicitDefEqProofs -dsimp only [go_sem, seval, *])
    ·rw [if_neg (fun h => hbad h.2)] at hv
     rw [hv, encE_set]
     clear hv hW
     refine calls_x mixed Try.func42 b42 n42 rfl q42 (by simp) ?_; unfold c42 r42
     rcases hwd' with ⟨w1, w2⟩ | ⟨rfl, w2, w3⟩
     ·subst w2
      repeat' (first | simp (maxDischargeDepth := 9) -implicitDefEqProofs -dsimp only [go_sem, seval, gt_iff_lt, List.getElem?_cons_zero, set_op, set_w, set_v, set_sig, set_hi, set_lo, set_n, *] | (with_reducible (first | apply Zb | apply Zc | apply Zd | apply Zg) <;> intro hq) | ((with_reducible refine Zt (fun oF hoF hnF hnF' => ?_)); (try simp only [upd_none, ne_eq, not_and] at hoF)) | ((with_reducible apply ACalls.one1); (focus ((with_reducible refine ACalls.flA (hU0 _) ?_) <;> (first | (simp (maxDischargeDepth := 9) -implicitDefEqProofs -dsimp only [go_sem, seval, *]; done) | omega))); (focus (first | trivial | with_reducible exact rfl | (simp (maxDischargeDepth := 9) -implicitDefEqProofs -dsimp only [go_sem, seval]; done)))))
      all_goals first | (exfalso; omega) | skip
      all_goals
       refine fin_eq ?_
       (repeat' simp (maxDischargeDepth := 9) -implicitDefEqProofs -dsimp only [go_sem, seval, List.map_cons, List.map_nil, *])
     ·repeat' (first | simp (maxDischargeDepth := 9) -implicitDefEqProofs -dsimp only [go_sem, seval, gt_iff_lt, List.getElem?_cons_zero, set_op, set_w, set_v, set_sig, set_hi, set_lo, set_n, *] | (with_reducible (first | apply Zb | apply Zc | apply Zd | apply Zg) <;> intro hq) | ((with_reducible refine Zt (fun oF hoF hnF hnF' => ?_)); (try simp only [upd_none, ne_eq, not_and] at hoF)) | ((with_reducible apply ACalls.one1); (focus ((first | with_reducible refine ACalls.flA (hown _) ?_ | with_reducible refine ACalls.flA (hU0 _) ?_) <;> (first | (simp (maxDischargeDepth := 9) -implicitDefEqProofs -dsimp only [go_sem, seval, *]; done) | omega))); (focus (first | trivial | with_reducible exact rfl | (simp (maxDischargeDepth := 9) -implicitDefEqProofs -dsimp only [go_sem, seval]; done)))))
      all_goals first | (exfalso; omega) | skip
      all_goals
       refine fin_eq ?_
       (repeat' simp (maxDischargeDepth := 9) -implicitDefEqProofs -dsimp only [go_sem, seval, List.map_cons, List.map_nil, *])
   ·have hf2 : R.2 ≠ 0 := fun h => hf (by rw [hus, if_neg (by omega)])
    rw [if_pos hf2] at hv hus
    have hfb : (R.2 != 0) = true := by simpa using hf2
    rw [hv, encE_zero]
    rw [hus] at hU0
    simp only [encE_zero] at hU0
    rw [hq] at hown hqb hwd'
    clear hus hup hlen hf hf2 hv hW
    obtain ⟨f, hf⟩ : ∃ f, R.2 = f := ⟨_, rfl⟩
    rw [hf] at hU0 hfb ⊢
    clear hf
    refine calls_x mixed Try.func42 b42 n42 rfl q42 (by simp) ?_; unfold c42 r42
    rcases hwd' with ⟨w1, w2⟩ | ⟨rfl, w2, w3⟩
    ·subst w2
     repeat' (first | simp (maxDischargeDepth := 9) -implicitDefEqProofs -dsimp only [go_sem, seval, gt_iff_lt, *] | ((with_reducible refine Zt (fun oF hoF hnF hnF' => ?_)); (try simp only [upd_none, ne_eq, not_and] at hoF)) | ((with_reducible apply ACalls.one1); (focus ((with_reducible refine ACalls.flA (hU0 _) ?_) <;> (first | (simp (maxDischargeDepth := 9) -implicitDefEqProofs -dsimp only [go_sem, seval, *]; done) | omega))); (focus (first | trivial | with_reducible exact rfl | (simp (maxDischargeDepth := 9) -implicitDefEqProofs -dsimp only [go_sem, seval]; done)))))
     refine fin_eq ?_
     (repeat' simp (maxDischargeDepth := 9) -implicitDefEqProofs -dsimp only [go_sem, seval, *])
    ·repeat' (first | simp (maxDischargeDepth := 9) -implicitDefEqProofs -dsimp only [go_sem, seval, gt_iff_lt, *] | ((with_reducible refine Zt (fun oF hoF hnF hnF' => ?_)); (try simp only [upd_none, ne_eq, not_and] at hoF)) | ((with_reducible apply ACalls.one1); (focus ((first | with_reducible refine ACalls.flA (hown _) ?_ | with_reducible refine ACalls.flA (hU0 _) ?_) <;> (first | (simp (maxDischargeDepth := 9) -implicitDefEqProofs -dsimp only [go_sem, seval, *]; done) | omega))); (focus (first | trivial | with_reducible exact rfl | (simp (maxDischargeDepth := 9) -implicitDefEqProofs -dsimp only [go_sem, seval]; done)))))
     refine fin_eq ?_
     (repeat' simp (maxDischargeDepth := 9) -implicitDefEqProofs -dsimp only [go_sem, seval, *])
  ·have hqb : (e.w != W) = true := by simp [hq]
   rw [hsn hn1 (by rw [hwt, if_pos hq]), encE_zero]
   clear hU hs8 hsn hwt hn1 hW
   refine calls_x mixed Try.func42 b42 n42 rfl q42 (by simp) ?_; unfold c42 r42
   rcases hwd' with ⟨w1, w2⟩ | ⟨w1, w2, w3⟩
   ·subst w2
    clear hq
    repeat' (first | simp (maxDischargeDepth := 9) -implicitDefEqProofs -dsimp only [go_sem, seval, *] | ((with_reducible refine Zt (fun oF hoF hnF hnF' => ?_)); (try simp only [upd_none, ne_eq, not_and] at hoF)))
    refine fin_eq ?_
    (repeat' simp (maxDischargeDepth := 9) -implicitDefEqProofs -dsimp only [go_sem, seval, *])
   ·exact (hq w3).elim
end Go.Proofs.Ytdiebjnjhgbklaa

namespace Go.Proofs.Ytdiebjnjhgbklaa
open Abs Fil Fil.Sz
theorem rf_bit (g : List Sg) (hg : SgOk g) (e : E) (σ : Sig) (hs : shp g e = true) (he : nodes e ≤ 16777216) (hw : WfE e) : ACalls Try.prog 55 [encE e] σ (fun r σ' => r = .ret (.tup [encE (size e (-1)).1, .int .i64 (size e (-1)).2]) ∧ σ' = σ) := by
 have h1 := encEs_eq e
 have c1 := fun τ => rf_own g hg e τ hs he
 have c2 := fun τ => rf_sized g hg e 1 τ hs he hw (by omega)
 refine calls_x mixed Try.func55 b55 n55 rfl q55 (by simp) ?_; unfold c55 r55
 by_cases hb : 1 < own e
 ·rw [size_bit hb, encE_zero]
  clear c2
  repeat' (first | simp (maxDischargeDepth := 9) -implicitDefEqProofs -dsimp only [go_sem, seval, gt_iff_lt, *] | ((with_reducible refine Zt (fun oF hoF hnF hnF' => ?_)); (try simp only [upd_none, ne_eq, not_and] at hoF)) | ((with_reducible apply ACalls.one1); (focus ((with_reducible refine ACalls.flA (c1 _) ?_) <;> (first | (simp (maxDischargeDepth := 9) -implicitDefEqProofs -dsimp only [go_sem, seval, *]; done) | omega))); (focus (first | trivial | with_reducible exact rfl | (simp (maxDischargeDepth := 9) -implicitDefEqProofs -dsimp only [go_sem, seval]; done)))))
  refine fin_eq ?_
  (repeat' simp (maxDischargeDepth := 9) -implicitDefEqProofs -dsimp only [go_sem, seval, *])
 ·rw [size_neg hb]
  obtain ⟨⟨x, f⟩, hxf⟩ : ∃ R, size e 1 = R := ⟨_, rfl⟩
  rw [hxf] at c2 ⊢
  clear hxf
  repeat' (first | simp (maxDischargeDepth := 9) -implicitDefEqProofs -dsimp only [go_sem, seval, gt_iff_lt, *] | ((with_reducible refine Zt (fun oF hoF hnF hnF' => ?_)); (try simp only [upd_none, ne_eq, not_and] at hoF)) | ((with_reducible apply ACalls.one1); (focus ((first | with_reducible refine ACalls.flA (c1 _) ?_ | with_reducible refine ACalls.flA (c2 _) ?_) <;> (first | (simp (maxDischargeDepth := 9) -implicitDefEqProofs -dsimp only [go_sem, seval, *]; done) | omega))); (focus (first | trivial | with_reducible exact rfl | (simp (maxDischargeDepth := 9) -implicitDefEqProofs -dsimp only [go_sem, seval]; done)))))
  refine fin_eq ?_
  (repeat' simp (maxDischargeDepth := 9) -implicitDefEqProofs -dsimp only [go_sem, seval, *])
end Go.Proofs.Ytdiebjnjhgbklaa

namespace Go.Proofs.Ytdiebjnjhgbklaa
open Abs Fil Fil.Sz
theorem sl_indexT (p : T → Bool) (l : List T) (hl : l.length ≤ 1000000000000) (σ : Sig) {F : Nat} {caps : List AV} (hF : ∀ x ∈ l, ACalls Try.prog F (encT x :: caps) σ (fun r σ' => r = .ret (.bool (p x)) ∧ σ' = σ)) :
  ACalls Try.prog 103 [.slice (l.map encT) .no, .fn F [] caps] σ (fun r σ' => r = .ret (.int .i64 (idxF p l)) ∧ σ' = σ) :=
 lib_indexFunc (sz := 6) (g := true) mixed Try.func103 b103 n103 rfl q103 (fun _ => rfl) (fun _ => rfl) p l hl hF
theorem sl_containsT (p : T → Bool) (l : List T) (hl : l.length ≤ 1000000000000) (σ : Sig) {F : Nat} {caps : List AV} (hF : ∀ x ∈ l, ACalls Try.prog F (encT x :: caps) σ (fun r σ' => r = .ret (.bool (p x)) ∧ σ' = σ)) :
  ACalls Try.prog 87 [.slice (l.map encT) .no, .fn F [] caps] σ (fun r σ' => r = .ret (.bool (l.any p)) ∧ σ' = σ) :=
 lib_containsFunc mixed Try.func87 b87 n87 rfl q87 p l (sl_indexT p l hl σ hF)
theorem sl_indexP (p : Pr → Bool) (l : List Pr) (hl : l.length ≤ 1000000000000) (σ : Sig) {F : Nat} {caps : List AV} (hF : ∀ x ∈ l, ACalls Try.prog F (encP x :: caps) σ (fun r σ' => r = .ret (.bool (p x)) ∧ σ' = σ)) :
  ACalls Try.prog 104 [.slice (l.map encP) .no, .fn F [] caps] σ (fun r σ' => r = .ret (.int .i64 (idxF p l)) ∧ σ' = σ) :=
 lib_indexFunc (sz := 2) (g := true) mixed Try.func104 b104 n104 rfl q104 (fun _ => rfl) (fun _ => rfl) p l hl hF
theorem sl_containsP (p : Pr → Bool) (l : List Pr) (hl : l.length ≤ 1000000000000) (σ : Sig) {F : Nat} {caps : List AV} (hF : ∀ x ∈ l, ACalls Try.prog F (encP x :: caps) σ (fun r σ' => r = .ret (.bool (p x)) ∧ σ' = σ)) :
  ACalls Try.prog 89 [.slice (l.map encP) .no, .fn F [] caps] σ (fun r σ' => r = .ret (.bool (l.any p)) ∧ σ' = σ) :=
 lib_containsFunc mixed Try.func89 b89 n89 rfl q89 p l (sl_indexP p l hl σ hF)
theorem sl_indexC (p : Ck → Bool) (l : List Ck) (hl : l.length ≤ 1000000000000) (σ : Sig) {F : Nat} {caps : List AV} (hF : ∀ x ∈ l, ACalls Try.prog F (encC x :: caps) σ (fun r σ' => r = .ret (.bool (p x)) ∧ σ' = σ)) :
  ACalls Try.prog 105 [.slice (l.map encC) .no, .fn F [] caps] σ (fun r σ' => r = .ret (.int .i64 (idxF p l)) ∧ σ' = σ) :=
 lib_indexFunc (sz := 9) (g := true) mixed Try.func105 b105 n105 rfl q105 (fun _ => rfl) (fun _ => rfl) p l hl hF
theorem sl_containsC (p : Ck → Bool) (l : List Ck) (hl : l.length ≤ 1000000000000) (σ : Sig) {F : Nat} {caps : List AV} (hF : ∀ x ∈ l, ACalls Try.prog F (encC x :: caps) σ (fun r σ' => r = .ret (.bool (p x)) ∧ σ' = σ)) :
  ACalls Try.prog 90 [.slice (l.map encC) .no, .fn F [] caps] σ (fun r σ' => r = .ret (.bool (l.any p)) ∧ σ' = σ) :=
 lib_containsFunc mixed Try.func90 b90 n90 rfl q90 p l (sl_indexC p l hl σ hF)
theorem all_any {α : Type} (l : List α) (p : α → Bool) : l.all p = !l.any fun x => !p x := by
 rw [Bool.eq_iff_iff]; simp [List.any_eq_true, List.all_eq_true]
theorem armT_any (g : List Sg) (t : T) : armT g t = (decide (t.op = 4 ∧ t.sig = 0 ∧ t.hi = 0 ∧ t.lo = 0) && (!(t.e.any fun x => !(decide (x.op = 1) && shp g x)) && !(t.l.any fun s => !shpT g s))) := by
 rw [armT_eq, all_any t.e, all_any t.l, Bool.and_assoc]
set_option maxRecDepth 20000 in
set_option maxHeartbeats 1000000 in
theorem sz_arms_step (g : List Sg) (hg : g.length ≤ 1000000000000) (l : List T) (hn : (l.map nodesT).sum ≤ 16777216) (hw : ∀ t ∈ l, WfT t)
  (ih : ∀ a ∈ l, ∀ s ∈ a.l, ∀ τ, ACalls Try.prog 85 [.slice (g.map encS) .no, encT s] τ (fun r σ' => r = .ret (.bool (shpT g s)) ∧ σ' = τ)) (σ : Sig) :
  ACalls Try.prog 102 [.slice (g.map encS) .no, .slice (l.map encT) .no] σ (fun r σ' => r = .ret (.bool (armsT g l)) ∧ σ' = σ) := by
 have l1 := len_sum nodesT_pos l
 have clo1 : ∀ a ∈ l, ∀ (b : Nat) (τ : Sig), τ b = some (.cells [.slice (g.map encS) .no]) → ∀ x ∈ a.e, ACalls Try.prog 108 (encE x :: [.ptr b 0]) τ (fun r σ' => r = .ret (.bool (!(decide (x.op = 1) && shp g x))) ∧ σ' = τ) := fun a ha b τ hb x hx => by
  have hc := fun τ => sz_shape g hg x τ (by have := mem_sum (f := nodesT) ha; have := partE_nodes hx; omega) (((WfT_iff a).1 (hw a ha)).2.1 x hx)
  refine calls_x mixed Try.func108 b108 n108 rfl q108 (by simp) ?_; unfold c108 r108
  by_cases ho : x.op = 1
  ·have hob : (x.op != 1) = false := by simp [ho]
   have hd : decide (x.op = 1) = true := by simp [ho]
   rw [hd, Bool.true_and]
   clear ho hd
   repeat' (first | simp (maxDischargeDepth := 9) -implicitDefEqProofs -dsimp only [go_sem, seval, *] | ((with_reducible apply ACalls.one1); (focus ((with_reducible refine hc _) <;> (first | (simp (maxDischargeDepth := 9) -implicitDefEqProofs -dsimp only [go_sem, seval, *]; done) | omega))); (focus (first | trivial | with_reducible exact rfl | (simp (maxDischargeDepth := 9) -implicitDefEqProofs -dsimp only [go_sem, seval]; done)))))
   refine fin_eq ?_
   (repeat' simp (maxDischargeDepth := 9) -implicitDefEqProofs -dsimp only [go_sem, seval, *])
  ·have hob : (x.op != 1) = true := by simp [ho]
   have hd : decide (x.op = 1) = false := by simp [ho]
   rw [hd, Bool.false_and]
   clear ho hd
   repeat' simp (maxDischargeDepth := 9) -implicitDefEqProofs -dsimp only [go_sem, seval, *]
   refine fin_eq ?_
   (repeat' simp (maxDischargeDepth := 9) -implicitDefEqProofs -dsimp only [go_sem, seval, *])
 have clo2 : ∀ a ∈ l, ∀ (b : Nat) (τ : Sig), τ b = some (.cells [.slice (g.map encS) .no]) → ∀ x ∈ a.l, ACalls Try.prog 109 (encT x :: [.ptr b 0]) τ (fun r σ' => r = .ret (.bool (!shpT g x)) ∧ σ' = τ) := fun a ha b τ hb x hx => by
  have hc := fun τ => ih a ha x hx τ
  refine calls_x mixed Try.func109 b109 n109 rfl q109 (by simp) ?_; unfold c109 r109
  repeat' (first | simp (maxDischargeDepth := 9) -implicitDefEqProofs -dsimp only [go_sem, seval, *] | ((with_reducible apply ACalls.one1); (focus ((with_reducible refine hc _) <;> (first | (simp (maxDischargeDepth := 9) -implicitDefEqProofs -dsimp only [go_sem, seval, *]; done) | omega))); (focus (first | trivial | with_reducible exact rfl | (simp (maxDischargeDepth := 9) -implicitDefEqProofs -dsimp only [go_sem, seval]; done)))))
  refine fin_eq ?_
  (repeat' simp (maxDischargeDepth := 9) -implicitDefEqProofs -dsimp only [go_sem, seval, *])
 have con1 := fun (a : T) (ha : a ∈ l) (b : Nat) (τ : Sig) (hb : τ b = some (.cells [.slice (g.map encS) .no])) => sl_containsE (fun x => !(decide (x.op = 1) && shp g x)) a.e (by have := mem_sum (f := nodesT) ha; have := lenE_nodes a; omega) τ (clo1 a ha b τ hb)
 have con2 := fun (a : T) (ha : a ∈ l) (b : Nat) (τ : Sig) (hb : τ b = some (.cells [.slice (g.map encS) .no])) => sl_containsT (fun x => !shpT g x) a.l (by have := mem_sum (f := nodesT) ha; have := lenL_nodes a; omega) τ (clo2 a ha b τ hb)
 clear clo1 clo2 ih hw
 refine calls_x mixed Try.func102 b102 n102 rfl q102 (by simp) ?_; unfold c102 r102
 repeat' (first | simp (maxDischargeDepth := 9) -implicitDefEqProofs -dsimp only [go_sem, seval, *] | simp (disch := omega) only [wrap64] | ((with_reducible refine Zt (fun oF hoF hnF hnF' => ?_)); (try simp only [upd_none, ne_eq, not_and] at hoF)))
 obtain ⟨o, eo⟩ : ∃ x, x = oF := ⟨oF, rfl⟩
 subst eo
 have ho : σ o = none := hoF
 clear hoF hnF hnF'
 refine loop_rule (fun i : Nat => [(11, some (.int .i64 i)), (10, some (.int .i64 l.length)), (9, some (.slice (l.map encT) .no)), (2, some (.ptr o 0)), (1, some (.slice (l.map encT) .no))])
  (fun _ => upd σ o (.cells [.slice (g.map encS) .no])) (fun i => i ≤ l.length ∧ ∀ j, (h : j < l.length) → j < i → armT g l[j] = true ∧ (l[j].e.length = 0 ↔ j + 1 = l.length)) (fun i => l.length - i) 0 ?_ ?_
 ·clear con1 con2
  (repeat' simp (maxDischargeDepth := 9) -implicitDefEqProofs -dsimp only [go_sem, seval, *]) <;> (repeat' refine And.intro ?_ ?_) <;> (first | omega | skip)
 ·rintro i ⟨hi, hok⟩
  by_cases hlt : i < l.length
  ·have hx := encTs_eq l[i]
   have hbad : ¬ (armT g l[i] = true ∧ (l[i].e.length = 0 ↔ i + 1 = l.length)) → armsT g l = false := fun h => by
    cases hh : armsT g l with
    | false => rfl
    | true =>
     unfold armsT at hh
     rw [Bool.and_eq_true, decide_eq_true_eq, List.all_eq_true] at hh
     exact (h ⟨hh.2 _ (List.getElem_mem hlt), hh.1.2 i hlt⟩).elim
   have hstep : (armT g l[i] = true ∧ (l[i].e.length = 0 ↔ i + 1 = l.length)) → ∀ j, (h : j < l.length) → j < i + 1 → armT g l[j] = true ∧ (l[j].e.length = 0 ↔ j + 1 = l.length) := fun hp j h1 h => by
    rcases Nat.lt_or_ge j i with h' | h'
    ·exact hok j h1 h'
    ·obtain rfl : j = i := by omega
     exact hp
   have c1 := con1 l[i] (List.getElem_mem hlt)
   have c2 := con2 l[i] (List.getElem_mem hlt)
   have ha := armT_any g l[i]
   clear con1 con2 hok
   obtain ⟨A, hA⟩ : ∃ A, (l[i].e.any fun x => !(decide (x.op = 1) && shp g x)) = A := ⟨_, rfl⟩
   obtain ⟨B, hB⟩ : ∃ A, (l[i].l.any fun s => !shpT g s) = A := ⟨_, rfl⟩
   rw [hA] at c1 ha
   rw [hB] at c2 ha
   clear hA hB
   obtain ⟨p1, hp1⟩ : ∃ p, ((l[i].e.length : Int) == 0) = p := ⟨_, rfl⟩
   obtain ⟨p2, hp2⟩ : ∃ p, ((i : Int) + 1 == l.length) = p := ⟨_, rfl⟩
   have hpos : (l[i].e.length = 0 ↔ i + 1 = l.length) ↔ p1 = p2 := by
    rw [← hp1, ← hp2, Bool.eq_iff_iff]; simp; omega
   rw [hpos] at hbad hstep
   clear hpos
   have bft : ((false : Bool) == true) = false := rfl
   have btf : ((true : Bool) == false) = false := rfl
   by_cases hf : l[i].op = 4 ∧ l[i].sig = 0 ∧ l[i].hi = 0 ∧ l[i].lo = 0
   ·rw [show decide (l[i].op = 4 ∧ l[i].sig = 0 ∧ l[i].hi = 0 ∧ l[i].lo = 0) = true from decide_eq_true hf, Bool.true_and] at ha
    obtain ⟨f1, f2, f3, f4⟩ := hf
    by_cases hpp : p1 = p2
    ·subst hpp
     have hpp : (p1 == p1) = true := by simp
     cases A
     ·cases B
      ·have hn := hstep ⟨by rw [ha]; rfl, rfl⟩
       clear hbad hstep ha
       repeat' (first | simp (maxDischargeDepth := 9) -implicitDefEqProofs -dsimp only [go_sem, seval, *] | simp (disch := omega) only [wrap64] | ((with_reducible refine Zu ?_ ?_); focus omega) | ((with_reducible refine Zt (fun oF hoF hnF hnF' => ?_)); (try simp only [upd_none, ne_eq, not_and] at hoF)) | ((with_reducible apply ACalls.one1); (focus ((first | with_reducible refine c1 _ _ ?_ | with_reducible refine c2 _ _ ?_) <;> (first | (simp (maxDischargeDepth := 9) -implicitDefEqProofs -dsimp only [go_sem, seval, *]; done) | omega))); (focus (first | trivial | with_reducible exact rfl | (simp (maxDischargeDepth := 9) -implicitDefEqProofs -dsimp only [go_sem, seval]; done)))))
       refine loop_next _ _ _ _ (i + 1) ?_; (repeat' simp (maxDischargeDepth := 9) -implicitDefEqProofs -dsimp only [go_sem, seval, *]) <;> (repeat' refine And.intro ?_ ?_) <;> (first | omega | skip)
      ·rw [hbad (fun h => by rw [ha] at h; simp at h)]
       clear hbad hstep ha
       repeat' (first | simp (maxDischargeDepth := 9) -implicitDefEqProofs -dsimp only [go_sem, seval, *] | simp (disch := omega) only [wrap64] | ((with_reducible refine Zu ?_ ?_); focus omega) | ((with_reducible refine Zt (fun oF hoF hnF hnF' => ?_)); (try simp only [upd_none, ne_eq, not_and] at hoF)) | ((with_reducible apply ACalls.one1); (focus ((first | with_reducible refine c1 _ _ ?_ | with_reducible refine c2 _ _ ?_) <;> (first | (simp (maxDischargeDepth := 9) -implicitDefEqProofs -dsimp only [go_sem, seval, *]; done) | omega))); (focus (first | trivial | with_reducible exact rfl | (simp (maxDischargeDepth := 9) -implicitDefEqProofs -dsimp only [go_sem, seval]; done)))))
       refine fin_eq ?_
       (repeat' simp (maxDischargeDepth := 9) -implicitDefEqProofs -dsimp only [go_sem, seval, *])
     ·rw [hbad (fun h => by rw [ha] at h; simp at h)]
      clear hbad hstep ha
      repeat' (first | simp (maxDischargeDepth := 9) -implicitDefEqProofs -dsimp only [go_sem, seval, *] | simp (disch := omega) only [wrap64] | ((with_reducible refine Zu ?_ ?_); focus omega) | ((with_reducible refine Zt (fun oF hoF hnF hnF' => ?_)); (try simp only [upd_none, ne_eq, not_and] at hoF)) | ((with_reducible apply ACalls.one1); (focus ((with_reducible refine c1 _ _ ?_) <;> (first | (simp (maxDischargeDepth := 9) -implicitDefEqProofs -dsimp only [go_sem, seval, *]; done) | omega))); (focus (first | trivial | with_reducible exact rfl | (simp (maxDischargeDepth := 9) -implicitDefEqProofs -dsimp only [go_sem, seval]; done)))))
      refine fin_eq ?_
      (repeat' simp (maxDischargeDepth := 9) -implicitDefEqProofs -dsimp only [go_sem, seval, *])
    ·rw [hbad (fun h => hpp h.2)]
     have hpb : (p1 == p2) = false := by simpa using hpp
     clear hbad hstep hpp
     repeat' (first | simp (maxDischargeDepth := 9) -implicitDefEqProofs -dsimp only [go_sem, seval, *] | simp (disch := omega) only [wrap64] | ((with_reducible refine Zu ?_ ?_); focus omega) | ((with_reducible refine Zt (fun oF hoF hnF hnF' => ?_)); (try simp only [upd_none, ne_eq, not_and] at hoF)))
     refine fin_eq ?_
     (repeat' simp (maxDischargeDepth := 9) -implicitDefEqProofs -dsimp only [go_sem, seval, *])
   ·rw [show decide (l[i].op = 4 ∧ l[i].sig = 0 ∧ l[i].hi = 0 ∧ l[i].lo = 0) = false from decide_eq_false hf, Bool.false_and] at ha
    rw [hbad (fun h => by rw [ha] at h; simp at h)]
    clear hbad hstep ha
    repeat' (first | simp (maxDischargeDepth := 9) -implicitDefEqProofs -dsimp only [go_sem, seval, *] | simp (disch := omega) only [wrap64] | (with_reducible (first | apply Zh | apply Zp | apply Zq | apply Zr) <;> intro hq) | ((with_reducible refine Zu ?_ ?_); focus omega) | ((with_reducible refine Zt (fun oF hoF hnF hnF' => ?_)); (try simp only [upd_none, ne_eq, not_and] at hoF)) | ((with_reducible apply ACalls.one1); (focus ((first | with_reducible refine c1 _ _ ?_ | with_reducible refine c2 _ _ ?_) <;> (first | (simp (maxDischargeDepth := 9) -implicitDefEqProofs -dsimp only [go_sem, seval, *]; done) | omega))); (focus (first | trivial | with_reducible exact rfl | (simp (maxDischargeDepth := 9) -implicitDefEqProofs -dsimp only [go_sem, seval]; done)))))
    all_goals first | (exfalso; apply hf; clear c1 c2; omega) | skip
    all_goals
     refine fin_eq ?_
     (repeat' simp (maxDischargeDepth := 9) -implicitDefEqProofs -dsimp only [go_sem, seval, *])
  ·have ei : i = l.length := by omega
   subst ei
   have hv : armsT g l = decide (0 < (l.length : Int)) := by
    by_cases h0 : 0 < l.length
    ·rw [decide_eq_true (by omega)]
     unfold armsT
     rw [Bool.and_eq_true, decide_eq_true_eq, List.all_eq_true]
     refine ⟨⟨h0, fun j hj => (hok j hj hj).2⟩, fun x hx => ?_⟩
     obtain ⟨j, hj, rfl⟩ := List.getElem_of_mem hx
     exact (hok j hj hj).1
    ·rw [decide_eq_false (by omega)]
     unfold armsT
     rw [Bool.and_eq_false_iff]
     exact .inl (decide_eq_false fun h => h0 h.1)
   clear con1 con2 hok
   repeat' simp (maxDischargeDepth := 9) -implicitDefEqProofs -dsimp only [go_sem, seval, gt_iff_lt, *]
   refine fin_eq ?_
   (repeat' simp (maxDischargeDepth := 9) -implicitDefEqProofs -dsimp only [go_sem, seval, *])
set_option maxRecDepth 20000 in
set_option maxHeartbeats 2000000 in
theorem sz_shapeT_step (g : List Sg) (hg : g.length ≤ 1000000000000) (t : T) (hn : nodesT t ≤ 16777216) (hw : WfT t)
  (ih : ∀ s ∈ t.l, ∀ τ, ACalls Try.prog 85 [.slice (g.map encS) .no, encT s] τ (fun r σ' => r = .ret (.bool (shpT g s)) ∧ σ' = τ))
  (ih2 : ∀ a ∈ t.l, ∀ s ∈ a.l, ∀ τ, ACalls Try.prog 85 [.slice (g.map encS) .no, encT s] τ (fun r σ' => r = .ret (.bool (shpT g s)) ∧ σ' = τ)) (σ : Sig) :
  ACalls Try.prog 85 [.slice (g.map encS) .no, encT t] σ (fun r σ' => r = .ret (.bool (shpT g t)) ∧ σ' = σ) := by
 have h1 := encTs_eq t
 have l1 := lenE_nodes t
 have l2 := lenL_nodes t
 have l3 := sub_nodesT t
 have w8 := (WfT_iff t).1 hw
 have clo1 : ∀ (b : Nat) (τ : Sig), τ b = some (.cells [.slice (g.map encS) .no]) → ∀ x ∈ t.e, ACalls Try.prog 100 (encE x :: [.ptr b 0]) τ (fun r σ' => r = .ret (.bool (!shp g x)) ∧ σ' = τ) := fun b τ hb x hx => by
  have hc := fun τ => sz_shape g hg x τ (by have := partE_nodes hx; omega) (w8.2.1 x hx)
  refine calls_x mixed Try.func100 b100 n100 rfl q100 (by simp) ?_; unfold c100 r100
  repeat' (first | simp (maxDischargeDepth := 9) -implicitDefEqProofs -dsimp only [go_sem, seval, *] | ((with_reducible apply ACalls.one1); (focus ((with_reducible refine hc _) <;> (first | (simp (maxDischargeDepth := 9) -implicitDefEqProofs -dsimp only [go_sem, seval, *]; done) | omega))); (focus (first | trivial | with_reducible exact rfl | (simp (maxDischargeDepth := 9) -implicitDefEqProofs -dsimp only [go_sem, seval]; done)))))
  refine fin_eq ?_
  (repeat' simp (maxDischargeDepth := 9) -implicitDefEqProofs -dsimp only [go_sem, seval, *])
 have clo2 : ∀ (b : Nat) (τ : Sig), τ b = some (.cells [.slice (g.map encS) .no]) → ∀ x ∈ t.l, ACalls Try.prog 101 (encT x :: [.ptr b 0]) τ (fun r σ' => r = .ret (.bool (!shpT g x)) ∧ σ' = τ) := fun b τ hb x hx => by
  have hc := fun τ => ih x hx τ
  refine calls_x mixed Try.func101 b101 n101 rfl q101 (by simp) ?_; unfold c101 r101
  repeat' (first | simp (maxDischargeDepth := 9) -implicitDefEqProofs -dsimp only [go_sem, seval, *] | ((with_reducible apply ACalls.one1); (focus ((with_reducible refine hc _) <;> (first | (simp (maxDischargeDepth := 9) -implicitDefEqProofs -dsimp only [go_sem, seval, *]; done) | omega))); (focus (first | trivial | with_reducible exact rfl | (simp (maxDischargeDepth := 9) -implicitDefEqProofs -dsimp only [go_sem, seval]; done)))))
  refine fin_eq ?_
  (repeat' simp (maxDischargeDepth := 9) -implicitDefEqProofs -dsimp only [go_sem, seval, *])
 have c1 := fun (b : Nat) (τ : Sig) (hb : τ b = some (.cells [.slice (g.map encS) .no])) => sl_containsE (fun x => !shp g x) t.e (by omega) τ (clo1 b τ hb)
 have c2 := fun (b : Nat) (τ : Sig) (hb : τ b = some (.cells [.slice (g.map encS) .no])) => sl_containsT (fun x => !shpT g x) t.l (by omega) τ (clo2 b τ hb)
 have c3 := fun τ => sz_arms_step g hg t.l (by omega) w8.2.2 ih2 τ
 have c4 := fun τ => sz_slice g t.sig t.hi t.lo τ hg
 have hs := shpT_eq g t
 rw [all_any t.e, all_any t.l (shpT g)] at hs
 obtain ⟨A, hA⟩ : ∃ A, (t.e.any fun x => !shp g x) = A := ⟨_, rfl⟩
 obtain ⟨B, hB⟩ : ∃ A, (t.l.any fun s => !shpT g s) = A := ⟨_, rfl⟩
 obtain ⟨C, hC⟩ : ∃ A, armsT g t.l = A := ⟨_, rfl⟩
 obtain ⟨D, hD⟩ : ∃ A, place g t.sig t.hi t.lo = A := ⟨_, rfl⟩
 rw [hA] at c1 hs
 rw [hB] at c2 hs
 rw [hC] at c3 hs
 rw [hD] at c4 hs
 clear clo1 clo2 ih ih2 w8 hw hA hB hC hD
 refine calls_x mixed Try.func85 b85 n85 rfl q85 (by simp) ?_; unfold c85 r85
 cases A
 case true =>
  have hv : shpT g t = false := by rw [hs]; simp
  clear hs c2 c3 c4
  repeat' (first | simp (maxDischargeDepth := 9) -implicitDefEqProofs -dsimp only [go_sem, seval, *] | ((with_reducible refine Zt (fun oF hoF hnF hnF' => ?_)); (try simp only [upd_none, ne_eq, not_and] at hoF)) | ((with_reducible apply ACalls.one1); (focus ((with_reducible refine c1 _ _ ?_) <;> (first | (simp (maxDischargeDepth := 9) -implicitDefEqProofs -dsimp only [go_sem, seval, *]; done) | omega))); (focus (first | trivial | with_reducible exact rfl | (simp (maxDischargeDepth := 9) -implicitDefEqProofs -dsimp only [go_sem, seval]; done)))))
  refine fin_eq ?_
  (repeat' simp (maxDischargeDepth := 9) -implicitDefEqProofs -dsimp only [go_sem, seval, *])
 by_cases o1 : t.op = 1
 ·rw [if_pos o1] at hs
  by_cases hb : t.e.length = 1 ∧ t.l.length = 0
  ·rw [decide_eq_true hb] at hs
   simp only [Bool.not_false, Bool.true_and] at hs
   obtain ⟨b1, b2⟩ := hb
   clear c2 c3
   repeat' (first | simp (maxDischargeDepth := 9) -implicitDefEqProofs -dsimp only [go_sem, seval, *] | ((with_reducible refine Zt (fun oF hoF hnF hnF' => ?_)); (try simp only [upd_none, ne_eq, not_and] at hoF)) | ((with_reducible apply ACalls.one1); (focus ((first | with_reducible refine c1 _ _ ?_ | with_reducible refine c4 _) <;> (first | (simp (maxDischargeDepth := 9) -implicitDefEqProofs -dsimp only [go_sem, seval, *]; done) | omega))); (focus (first | trivial | with_reducible exact rfl | (simp (maxDischargeDepth := 9) -implicitDefEqProofs -dsimp only [go_sem, seval]; done)))))
   refine fin_eq ?_
   (repeat' simp (maxDischargeDepth := 9) -implicitDefEqProofs -dsimp only [go_sem, seval, *])
  ·rw [decide_eq_false hb] at hs
   simp only [Bool.not_false, Bool.true_and, Bool.false_and] at hs
   clear c2 c3
   repeat' (first | simp (maxDischargeDepth := 9) -implicitDefEqProofs -dsimp only [go_sem, seval, *] | (with_reducible (first | apply Zc | apply Zd | apply Zf | apply Zh | apply Zi) <;> intro hq) | ((with_reducible refine Zt (fun oF hoF hnF hnF' => ?_)); (try simp only [upd_none, ne_eq, not_and] at hoF)) | ((with_reducible apply ACalls.one1); (focus ((first | with_reducible refine c1 _ _ ?_ | with_reducible refine c4 _) <;> (first | (simp (maxDischargeDepth := 9) -implicitDefEqProofs -dsimp only [go_sem, seval, *]; done) | omega))); (focus (first | trivial | with_reducible exact rfl | (simp (maxDischargeDepth := 9) -implicitDefEqProofs -dsimp only [go_sem, seval]; done)))))
   all_goals first | (exfalso; apply hb; clear c1 c4; omega) | skip
   all_goals
    refine fin_eq ?_
    (repeat' simp (maxDischargeDepth := 9) -implicitDefEqProofs -dsimp only [go_sem, seval, *])
 rw [if_neg o1] at hs
 have ob1 : (t.op != 1) = true := by simp [o1]
 by_cases hz : t.sig = 0 ∧ t.hi = 0 ∧ t.lo = 0
 case neg =>
  have hv : shpT g t = false := by rw [hs, decide_eq_false hz]; simp
  clear hs c2 c3 c4
  repeat' (first | simp (maxDischargeDepth := 9) -implicitDefEqProofs -dsimp only [go_sem, seval, *] | (with_reducible (first | apply Zc | apply Zd | apply Zf | apply Zh | apply Zi) <;> intro hq) | ((with_reducible refine Zu ?_ ?_); focus omega) | ((with_reducible refine Zt (fun oF hoF hnF hnF' => ?_)); (try simp only [upd_none, ne_eq, not_and] at hoF)) | ((with_reducible apply ACalls.one1); (focus ((with_reducible refine c1 _ _ ?_) <;> (first | (simp (maxDischargeDepth := 9) -implicitDefEqProofs -dsimp only [go_sem, seval, *]; done) | omega))); (focus (first | trivial | with_reducible exact rfl | (simp (maxDischargeDepth := 9) -implicitDefEqProofs -dsimp only [go_sem, seval]; done)))))
  all_goals first | (exfalso; apply hz; clear c1; omega) | skip
  all_goals
   refine fin_eq ?_
   (repeat' simp (maxDischargeDepth := 9) -implicitDefEqProofs -dsimp only [go_sem, seval, *])
 rw [decide_eq_true hz] at hs
 simp only [Bool.not_false, Bool.true_and] at hs
 obtain ⟨z1, z2, z3⟩ := hz
 by_cases o2 : t.op = 2
 ·rw [if_pos o2] at hs
  clear c3 c4
  by_cases hb : t.e.length = 1 ∧ t.l.length = 2
  ·obtain ⟨b1, b2⟩ := hb
   have b3 : (0 : Int) < t.l.length := by omega
   have b4 : (1 : Int) < t.l.length := by omega
   have b5 : 0 < t.l.length := by omega
   have b6 : 1 < t.l.length := by omega
   have hall : (t.l.all fun x => decide (x.op = 5)) = (decide (t.l[0].op = 5) && decide (t.l[1].op = 5)) := by
    obtain ⟨x, y, hxy⟩ := len2 b2
    simp [hxy]
   rw [decide_eq_true ⟨b1, b2⟩, Bool.true_and, hall] at hs
   clear hall
   obtain ⟨u, hu⟩ : ∃ u, (t.l[0].op != 5) = u := ⟨_, rfl⟩
   obtain ⟨v, hv⟩ : ∃ u, (t.l[1].op != 5) = u := ⟨_, rfl⟩
   have hu2 : decide (t.l[0].op = 5) = !u := by rw [← hu, bne, Bool.not_not]; rfl
   have hv2 : decide (t.l[1].op = 5) = !v := by rw [← hv, bne, Bool.not_not]; rfl
   rw [hu2, hv2] at hs
   clear hu2 hv2
   cases u <;> cases v <;> simp only [Bool.not_false, Bool.not_true, Bool.true_and, Bool.false_and, Bool.and_false] at hs
   all_goals
    repeat' (first | simp (maxDischargeDepth := 9) -implicitDefEqProofs -dsimp only [go_sem, seval, *] | ((with_reducible refine Zu ?_ ?_); focus omega) | ((with_reducible refine Zt (fun oF hoF hnF hnF' => ?_)); (try simp only [upd_none, ne_eq, not_and] at hoF)) | ((with_reducible apply ACalls.one1); (focus ((first | with_reducible refine c1 _ _ ?_ | with_reducible refine c2 _ _ ?_) <;> (first | (simp (maxDischargeDepth := 9) -implicitDefEqProofs -dsimp only [go_sem, seval, *]; done) | omega))); (focus (first | trivial | with_reducible exact rfl | (simp (maxDischargeDepth := 9) -implicitDefEqProofs -dsimp only [go_sem, seval]; done)))))
    refine fin_eq ?_
    (repeat' simp (maxDischargeDepth := 9) -implicitDefEqProofs -dsimp only [go_sem, seval, *])
  ·rw [decide_eq_false hb] at hs
   simp only [Bool.false_and] at hs
   repeat' (first | simp (maxDischargeDepth := 9) -implicitDefEqProofs -dsimp only [go_sem, seval, *] | (with_reducible (first | apply Zc | apply Zd | apply Zf | apply Zh | apply Zi) <;> intro hq) | ((with_reducible refine Zu ?_ ?_); focus omega) | ((with_reducible refine Zt (fun oF hoF hnF hnF' => ?_)); (try simp only [upd_none, ne_eq, not_and] at hoF)) | ((with_reducible apply ACalls.one1); (focus ((first | with_reducible refine c1 _ _ ?_ | with_reducible refine c2 _ _ ?_) <;> (first | (simp (maxDischargeDepth := 9) -implicitDefEqProofs -dsimp only [go_sem, seval, *]; done) | omega))); (focus (first | trivial | with_reducible exact rfl | (simp (maxDischargeDepth := 9) -implicitDefEqProofs -dsimp only [go_sem, seval]; done)))))
   all_goals first | (exfalso; apply hb; clear c1 c2; omega) | skip
   all_goals
    refine fin_eq ?_
    (repeat' simp (maxDischargeDepth := 9) -implicitDefEqProofs -dsimp only [go_sem, seval, *])
 rw [if_neg o2] at hs
 by_cases o3 : t.op = 3
 ·rw [if_pos o3] at hs
  by_cases hb : t.e.length = 1
  ·rw [decide_eq_true hb, Bool.true_and] at hs
   clear c2 c4
   repeat' (first | simp (maxDischargeDepth := 9) -implicitDefEqProofs -dsimp only [go_sem, seval, *] | ((with_reducible refine Zt (fun oF hoF hnF hnF' => ?_)); (try simp only [upd_none, ne_eq, not_and] at hoF)) | ((with_reducible apply ACalls.one1); (focus ((first | with_reducible refine c1 _ _ ?_ | with_reducible refine c3 _) <;> (first | (simp (maxDischargeDepth := 9) -implicitDefEqProofs -dsimp only [go_sem, seval, *]; done) | omega))); (focus (first | trivial | with_reducible exact rfl | (simp (maxDischargeDepth := 9) -implicitDefEqProofs -dsimp only [go_sem, seval]; done)))))
   refine fin_eq ?_
   (repeat' simp (maxDischargeDepth := 9) -implicitDefEqProofs -dsimp only [go_sem, seval, *])
  ·rw [decide_eq_false hb, Bool.false_and] at hs
   have hb2 : ((t.e.length : Int) == 1) = false := by simp; omega
   clear c2 c4 hb
   repeat' (first | simp (maxDischargeDepth := 9) -implicitDefEqProofs -dsimp only [go_sem, seval, *] | ((with_reducible refine Zt (fun oF hoF hnF hnF' => ?_)); (try simp only [upd_none, ne_eq, not_and] at hoF)) | ((with_reducible apply ACalls.one1); (focus ((with_reducible refine c1 _ _ ?_) <;> (first | (simp (maxDischargeDepth := 9) -implicitDefEqProofs -dsimp only [go_sem, seval, *]; done) | omega))); (focus (first | trivial | with_reducible exact rfl | (simp (maxDischargeDepth := 9) -implicitDefEqProofs -dsimp only [go_sem, seval]; done)))))
   refine fin_eq ?_
   (repeat' simp (maxDischargeDepth := 9) -implicitDefEqProofs -dsimp only [go_sem, seval, *])
 rw [if_neg o3] at hs
 by_cases o5 : t.op = 5
 ·rw [if_pos o5] at hs
  clear c3 c4
  by_cases hb : t.e.length = 0
  ·rw [decide_eq_true hb, Bool.true_and] at hs
   repeat' (first | simp (maxDischargeDepth := 9) -implicitDefEqProofs -dsimp only [go_sem, seval, gt_iff_lt, *] | ((with_reducible refine Zt (fun oF hoF hnF hnF' => ?_)); (try simp only [upd_none, ne_eq, not_and] at hoF)) | ((with_reducible apply ACalls.one1); (focus ((first | with_reducible refine c1 _ _ ?_ | with_reducible refine c2 _ _ ?_) <;> (first | (simp (maxDischargeDepth := 9) -implicitDefEqProofs -dsimp only [go_sem, seval, *]; done) | omega))); (focus (first | trivial | with_reducible exact rfl | (simp (maxDischargeDepth := 9) -implicitDefEqProofs -dsimp only [go_sem, seval]; done)))))
   all_goals first | (exfalso; clear c1 c2; omega) | skip
   all_goals
    refine fin_eq ?_
    (repeat' simp (maxDischargeDepth := 9) -implicitDefEqProofs -dsimp only [go_sem, seval, *])
  ·rw [decide_eq_false hb, Bool.false_and] at hs
   repeat' (first | simp (maxDischargeDepth := 9) -implicitDefEqProofs -dsimp only [go_sem, seval, gt_iff_lt, *] | (with_reducible (first | apply Zc | apply Zd | apply Zf | apply Zh | apply Zi) <;> intro hq) | ((with_reducible refine Zt (fun oF hoF hnF hnF' => ?_)); (try simp only [upd_none, ne_eq, not_and] at hoF)) | ((with_reducible apply ACalls.one1); (focus ((first | with_reducible refine c1 _ _ ?_ | with_reducible refine c2 _ _ ?_) <;> (first | (simp (maxDischargeDepth := 9) -implicitDefEqProofs -dsimp only [go_sem, seval, *]; done) | omega))); (focus (first | trivial | with_reducible exact rfl | (simp (maxDischargeDepth := 9) -implicitDefEqProofs -dsimp only [go_sem, seval]; done)))))
   all_goals first | (exfalso; clear c1 c2; omega) | skip
   all_goals
    refine fin_eq ?_
    (repeat' simp (maxDischargeDepth := 9) -implicitDefEqProofs -dsimp only [go_sem, seval, *])
 rw [if_neg o5] at hs
 have ob2 : (t.op == 2) = false := by simp [o2]
 have ob3 : (t.op == 3) = false := by simp [o3]
 have ob5 : (t.op == 5) = false := by simp [o5]
 have ob6 : (t.op == 1) = false := by simp [o1]
 clear o1 o2 o3 o5 c2 c3 c4
 repeat' (first | simp (maxDischargeDepth := 9) -implicitDefEqProofs -dsimp only [go_sem, seval, *] | ((with_reducible refine Zt (fun oF hoF hnF hnF' => ?_)); (try simp only [upd_none, ne_eq, not_and] at hoF)) | ((with_reducible apply ACalls.one1); (focus ((with_reducible refine c1 _ _ ?_) <;> (first | (simp (maxDischargeDepth := 9) -implicitDefEqProofs -dsimp only [go_sem, seval, *]; done) | omega))); (focus (first | trivial | with_reducible exact rfl | (simp (maxDischargeDepth := 9) -implicitDefEqProofs -dsimp only [go_sem, seval]; done)))))
 refine fin_eq ?_
 (repeat' simp (maxDischargeDepth := 9) -implicitDefEqProofs -dsimp only [go_sem, seval, *])
theorem sz_shapeT (g : List Sg) (hg : g.length ≤ 1000000000000) (t : T) (σ : Sig) (hn : nodesT t ≤ 16777216) (hw : WfT t) :
  ACalls Try.prog 85 [.slice (g.map encS) .no, encT t] σ (fun r σ' => r = .ret (.bool (shpT g t)) ∧ σ' = σ) := by
 have key : nodesT t ≤ 16777216 → WfT t → (∀ τ, ACalls Try.prog 85 [.slice (g.map encS) .no, encT t] τ (fun r σ' => r = .ret (.bool (shpT g t)) ∧ σ' = τ)) ∧
   ∀ s ∈ t.l, ∀ τ, ACalls Try.prog 85 [.slice (g.map encS) .no, encT s] τ (fun r σ' => r = .ret (.bool (shpT g s)) ∧ σ' = τ) := by
  refine T.ind (P := fun t => nodesT t ≤ 16777216 → WfT t → (∀ τ, ACalls Try.prog 85 [.slice (g.map encS) .no, encT t] τ (fun r σ' => r = .ret (.bool (shpT g t)) ∧ σ' = τ)) ∧
   ∀ s ∈ t.l, ∀ τ, ACalls Try.prog 85 [.slice (g.map encS) .no, encT s] τ (fun r σ' => r = .ret (.bool (shpT g s)) ∧ σ' = τ)) (fun t ih hn hw => ?_) t
  have h := fun (x : T) (hx : x ∈ t.l) => ih x hx (by have := partT_nodes hx; omega) (((WfT_iff t).1 hw).2.2 x hx)
  exact ⟨fun τ => sz_shapeT_step g hg t hn hw (fun s hs τ => (h s hs).1 τ) (fun a ha s hs τ => (h a ha).2 s hs τ) τ, fun s hs τ => (h s hs).1 τ⟩
 exact (key hn hw).1 σ
theorem sz_shaped (d : Flat) (σ : Sig) (hd : Sm d) (hw : WfD d) : ACalls Try.prog 44 [encD d] σ (fun r σ' => r = .ret (.bool (shapedD d)) ∧ σ' = σ) := by
 have l1 := hd.1
 have l2 := hd.2.1
 have l3 := hd.2.2.1
 have c1 := fun τ => sz_signals d.sigs τ (by omega)
 have clo1 : ∀ (b : Nat) (τ : Sig), τ b = some (.cells (dL d)) → ∀ p ∈ d.procs, ∀ x ∈ p.l, ACalls Try.prog 84 (encT x :: [.ptr b 0]) τ (fun r σ' => r = .ret (.bool (!shpT d.sigs x)) ∧ σ' = τ) := fun b τ hb p hp x hx => by
  have hc := fun τ => sz_shapeT d.sigs (by omega) x τ (by have h := sm_pr hd hp; unfold nodesP at h; have := mem_sum (f := nodesT) hx; omega) (hw.procs p hp x hx)
  refine calls_x mixed Try.func84 b84 n84 rfl q84 (by simp) ?_; unfold c84 r84
  repeat' (first | simp (maxDischargeDepth := 9) -implicitDefEqProofs -dsimp only [go_sem, seval, *] | ((with_reducible apply ACalls.one1); (focus ((with_reducible refine hc _) <;> (first | (simp (maxDischargeDepth := 9) -implicitDefEqProofs -dsimp only [go_sem, seval, *]; done) | omega))); (focus (first | trivial | with_reducible exact rfl | (simp (maxDischargeDepth := 9) -implicitDefEqProofs -dsimp only [go_sem, seval]; done)))))
  refine fin_eq ?_
  (repeat' simp (maxDischargeDepth := 9) -implicitDefEqProofs -dsimp only [go_sem, seval, *])
 have clo2 : ∀ (b c : Nat) (τ : Sig), τ b = some (.cells (dL d)) → τ c = some (.cells [.fn 84 [] [.ptr b 0]]) → ∀ p ∈ d.procs, ACalls Try.prog 86 (encP p :: [.ptr c 0]) τ (fun r σ' => r = .ret (.bool (p.l.any fun x => !shpT d.sigs x)) ∧ σ' = τ) := fun b c τ hb hcc p hp => by
  have hc := fun τ (hb : τ b = some (.cells (dL d))) => sl_containsT (fun x => !shpT d.sigs x) p.l (by have h := sm_pr hd hp; unfold nodesP at h; have := len_sum nodesT_pos p.l; omega) τ (clo1 b τ hb p hp)
  refine calls_x mixed Try.func86 b86 n86 rfl q86 (by simp) ?_; unfold c86 r86
  repeat' (first | simp (maxDischargeDepth := 9) -implicitDefEqProofs -dsimp only [go_sem, seval, *] | ((with_reducible apply ACalls.one1); (focus ((with_reducible refine hc _ ?_) <;> (first | (simp (maxDischargeDepth := 9) -implicitDefEqProofs -dsimp only [go_sem, seval, *]; done) | omega))); (focus (first | trivial | with_reducible exact rfl | (simp (maxDischargeDepth := 9) -implicitDefEqProofs -dsimp only [go_sem, seval]; done)))))
  refine fin_eq ?_
  (repeat' simp (maxDischargeDepth := 9) -implicitDefEqProofs -dsimp only [go_sem, seval, *])
 have clo3 : ∀ (b : Nat) (τ : Sig), τ b = some (.cells (dL d)) → ∀ x ∈ d.chks, ACalls Try.prog 88 (encC x :: [.ptr b 0]) τ (fun r σ' => r = .ret (.bool (!shp d.sigs x.e)) ∧ σ' = τ) := fun b τ hb x hx => by
  have hc := fun τ => sz_shape d.sigs (by omega) x.e τ (sm_ck hd hx) (hw.chks x hx)
  refine calls_x mixed Try.func88 b88 n88 rfl q88 (by simp) ?_; unfold c88 r88
  repeat' (first | simp (maxDischargeDepth := 9) -implicitDefEqProofs -dsimp only [go_sem, seval, *] | ((with_reducible apply ACalls.one1); (focus ((with_reducible refine hc _) <;> (first | (simp (maxDischargeDepth := 9) -implicitDefEqProofs -dsimp only [go_sem, seval, *]; done) | omega))); (focus (first | trivial | with_reducible exact rfl | (simp (maxDischargeDepth := 9) -implicitDefEqProofs -dsimp only [go_sem, seval]; done)))))
  refine fin_eq ?_
  (repeat' simp (maxDischargeDepth := 9) -implicitDefEqProofs -dsimp only [go_sem, seval, *])
 have c2 := fun (b c : Nat) (τ : Sig) (hb : τ b = some (.cells (dL d))) (hc : τ c = some (.cells [.fn 84 [] [.ptr b 0]])) => sl_containsP (fun p => p.l.any fun x => !shpT d.sigs x) d.procs (by omega) τ (clo2 b c τ hb hc)
 have c3 := fun (b : Nat) (τ : Sig) (hb : τ b = some (.cells (dL d))) => sl_containsC (fun x => !shp d.sigs x.e) d.chks (by omega) τ (clo3 b τ hb)
 have hs : shapedD d = (sigsOk d.sigs && !(d.procs.any fun p => p.l.any fun x => !shpT d.sigs x) && !(d.chks.any fun x => !shp d.sigs x.e)) := by
  unfold shapedD
  rw [all_any d.procs, all_any d.chks]
  congr 3
  congr 1
  funext p
  rw [all_any p.l, Bool.not_not]
 obtain ⟨A, hA⟩ : ∃ A, sigsOk d.sigs = A := ⟨_, rfl⟩
 obtain ⟨B, hB⟩ : ∃ A, (d.procs.any fun p => p.l.any fun x => !shpT d.sigs x) = A := ⟨_, rfl⟩
 obtain ⟨C, hC⟩ : ∃ A, (d.chks.any fun x => !shp d.sigs x.e) = A := ⟨_, rfl⟩
 rw [hA] at c1 hs
 rw [hB] at c2 hs
 rw [hC] at c3 hs
 clear clo1 clo2 clo3 hA hB hC hw hd
 refine calls_x mixed Try.func44 b44 n44 rfl q44 (by simp) ?_; unfold c44 r44
 cases A <;> cases B <;> simp only [Bool.not_false, Bool.not_true, Bool.true_and, Bool.false_and, Bool.and_false] at hs
 all_goals
  repeat' (first | simp (maxDischargeDepth := 9) -implicitDefEqProofs -dsimp only [go_sem, seval, *] | ((with_reducible refine Zt (fun oF hoF hnF hnF' => ?_)); (try simp only [upd_none, ne_eq, not_and] at hoF)))
  rename_i o1 ho1 nx1 nx2
  obtain ⟨o3, e3⟩ : ∃ x, x = oF := ⟨oF, rfl⟩
  subst e3
  obtain ⟨q1, q2⟩ := hoF
  have q3 : ¬ o1 = o3 := fun e => q1 e.symm
  clear nx1 nx2 hnF hnF'
  repeat' (first | simp (maxDischargeDepth := 9) -implicitDefEqProofs -dsimp only [go_sem, seval, *] | ((with_reducible apply ACalls.one1); (focus ((first | with_reducible refine c1 _ | with_reducible refine c2 o1 o3 _ ?_ ?_ | with_reducible refine c3 o1 _ ?_) <;> (first | (simp (maxDischargeDepth := 9) -implicitDefEqProofs -dsimp only [go_sem, seval, *]; done) | omega))); (focus (first | trivial | with_reducible exact rfl | (simp (maxDischargeDepth := 9) -implicitDefEqProofs -dsimp only [go_sem, seval]; done)))))
  refine fin_eq ?_
  (repeat' simp (maxDischargeDepth := 9) -implicitDefEqProofs -dsimp only [go_sem, seval, *])
end Go.Proofs.Ytdiebjnjhgbklaa

