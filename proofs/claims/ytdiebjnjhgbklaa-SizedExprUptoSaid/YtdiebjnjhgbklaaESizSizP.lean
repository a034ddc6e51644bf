/- sized: contracts: the document's expressions of designs. -/
import Derived.Test.YtdiebjnjhgbklaaESizSizN
set_option linter.unusedSimpArgs false
set_option linter.unusedVariables false
namespace Go.Proofs.Ytdiebjnjhgbklaa
open Abs Fil Fil.Sz
theorem rf_under_nil (x : E) (ws : List Int) (σ : Sig) (hn : x.l = []) :
    ACalls Try.prog 80 [encE x, .slice (ws.map encInt) .no] σ (fun r σ' => r = .ret (.tup [encE (underM x ws).1, .int .i64 (underM x ws).2]) ∧ σ' = σ) := by
  have h1 := encEs_eq x
  have hv : underM x ws = (x.set x.w [], 0) := by
    unfold underM; rw [hn]
    have : runL (List.map size []) ws = ([], 0) := by cases ws <;> rfl
    rw [this, if_neg (by simp)]
  rw [hv, encE_set]
  refine ACalls.virt (callable_of Try.func80 b80 n80) 8 (fun oV1 hoV1 hnV1 hnV1' => ?_); (try simp only [upd_none, ne_eq, not_and] at hoV1); refine calls_x mixed Try.func80 b80 n80 rfl q80 (by simp) ?_; unfold c80 r80
  repeat' (first | simp (maxDischargeDepth := 9) -implicitDefEqProofs -dsimp only [go_sem, seval, List.map_nil, List.length_nil, *] | ((with_reducible refine Zt (fun oF hoF hnF hnF' => ?_)); (try simp only [upd_none, ne_eq, not_and] at hoF)))
  rename_i o2 nx1 nx2 ho2
  obtain ⟨o4, e4⟩ : ∃ x, x = oF := ⟨oF, rfl⟩
  subst e4
  obtain ⟨a0, ho2⟩ := ho2
  obtain ⟨a1, a2, ho4⟩ := hoF
  have b0 : ¬ oV1 = o2 := fun e => a0 e.symm
  have b1 : ¬ o2 = o4 := fun e => a1 e.symm
  have b2 : ¬ oV1 = o4 := fun e => a2 e.symm
  clear nx1 nx2 hnF hnF' hnV1 hnV1'
  refine loop_rule (fun i : Nat => [(7, some (.int .i64 i)), (2, some (.ptr o2 0)), (1, some (.slice (ws.map encInt) .no)), (4, some (.ptr o4 0)), (6, some (.slice [] (.own oV1)))])
    (fun i => upd (upd (upd σ oV1 (.grow 8 0)) o2 (.cells [.int .i64 x.op, .int .i64 x.w, .int .u64 x.v, .int .i64 x.sig, .int .i64 x.hi, .int .i64 x.lo, .int .i64 x.n, .slice [] .no])) o4 (.cells zN))
    (fun i => i = 0) (fun i => 0) 0 ?_ ?_
  · (repeat' (first | simp (maxDischargeDepth := 9) -implicitDefEqProofs -dsimp only [go_sem, seval, *])) <;> (repeat' refine And.intro ?_ ?_) <;> (first | omega | rfl | assumption | skip)
  · rintro i rfl
    have hz : ¬ (((0 : Nat) : Int) < (([] : List E).length : Nat)) := by simp
    repeat' (first | simp (maxDischargeDepth := 9) -implicitDefEqProofs -dsimp only [go_sem, seval, List.map_nil, List.length_nil, Int.lt_irrefl, Int.natCast_zero, *] | ((with_reducible refine Zt (fun oF hoF hnF hnF' => ?_)); (try simp only [upd_none, ne_eq, not_and] at hoF)))
    refine fin_eq ?_
    (repeat' (first | simp (maxDischargeDepth := 9) -implicitDefEqProofs -dsimp only [go_sem, seval, List.map_nil, *])) <;> (repeat' refine And.intro ?_ ?_) <;> (first | omega | rfl | assumption | skip)
theorem wants_set {e : E} {W w : Int} (ho : e.op = 4 ∨ e.op = 5) : wants (e.set W e.l) w = wants e w := by
  rw [wants4 (e := e.set W e.l) (by exact ho), wants4 ho]; rfl
theorem under_set (e : E) (W : Int) (ws : List Int) : underM (e.set W e.l) ws = if (runL (e.l.map size) ws).2 ≠ 0 then (zE, (runL (e.l.map size) ws).2) else (e.set W (runL (e.l.map size) ws).1, 0) := rfl
theorem size_under {e : E} {w : Int} (hb : ¬ (w = -1 ∧ 1 < own e)) (hn : ¬ (e.op = 1 ∧ e.w = 0)) (h8 : ¬ e.op = 8) {ws : List Int} (hw : wants e (wide e w) = some ws) : size e w = underM (e.set (wide e w) e.l) ws := by
  rw [size_some hb hn hw, under_set, sizeK]
  split
  · rfl
  · rw [if_neg (fun h => h8 h.1)]
theorem under_part {e : E} {W : Int} {ws : List Int} (h : (underM (e.set W e.l) ws).2 = 0) : underM (e.set W e.l) ws = (e.set W (runL (e.l.map size) ws).1, 0) ∧ (runL (e.l.map size) ws).2 = 0 := by
  rw [under_set] at h ⊢
  split at h
  · rename_i q; simp only at h; exact (q h).elim
  · rename_i q; rw [if_neg q]; exact ⟨rfl, by simpa using q⟩
theorem rf_Holds2 (w v : Int) (σ : Sig) (h0 : 0 ≤ w) (hv : U64 v) : ACalls Try.prog 79 [.int .i64 w, .int .u64 v] σ (fun r σ' => r = .ret (.bool (holds w v)) ∧ σ' = σ) := by
  by_cases h1 : w ≤ 9223372036854775807
  · exact rf_Holds w v σ h0 h1 hv
  · refine calls_x mixed Try.func79 b79 n79 rfl q79 (by simp) ?_; unfold c79 r79
    have hw : 64 ≤ w := by omega
    have hh : holds w v = true := by
      unfold holds
      rw [decide_eq_true_eq]
      have e : (2 : Int) ^ w.toNat = ((2 ^ w.toNat : Nat) : Int) := by simp
      have := Nat.pow_le_pow_right (n := 2) (by omega) (show 64 ≤ w.toNat by omega)
      have := hv.2
      rw [e]; omega
    repeat' (first | simp (maxDischargeDepth := 9) -implicitDefEqProofs -dsimp only [go_sem, seval, ge_iff_le, *])
    refine fin_eq ?_
    (repeat' (first | simp (maxDischargeDepth := 9) -implicitDefEqProofs -dsimp only [go_sem, seval, *])) <;> (repeat' refine And.intro ?_ ?_) <;> (first | omega | rfl | assumption | skip)
set_option maxRecDepth 20000 in
set_option maxHeartbeats 4000000 in
theorem rf_sized (g : List Sg) (hg : SgOk g) (e : E) : ∀ (w : Int) (σ : Sig), shp g e = true → nodes e ≤ 16777216 → WfE e → 0 ≤ w → ACalls Try.prog 42 [encE e, .int .i64 w] σ (fun r σ' => r = .ret (.tup [encE (size e w).1, .int .i64 (size e w).2]) ∧ σ' = σ) := by
  refine E.ind (P := fun e => ∀ (w : Int) (σ : Sig), shp g e = true → nodes e ≤ 16777216 → WfE e → 0 ≤ w → ACalls Try.prog 42 [encE e, .int .i64 w] σ (fun r σ' => r = .ret (.tup [encE (size e w).1, .int .i64 (size e w).2]) ∧ σ' = σ)) (fun e ih w σ hs he hw h0 => ?_) e
  have h1 := encEs_eq e
  have l1 := len_nodes e
  have hown := fun τ => rf_own g hg e τ hs he
  have hon := own_nonneg hg e hs
  have hwp := wide_pos hon (show -1 ≤ w by omega)
  have hwd : ((w == 0) = false ∧ wide e w = w) ∨ (w = 0 ∧ (own e == 0) = false ∧ own e = wide e w) ∨ (w = 0 ∧ own e = 0 ∧ wide e w = 32) := by
    by_cases q : w = 0
    · subst q
      rw [wide_zero, told]
      by_cases q2 : own e = 0
      · exact .inr (.inr ⟨rfl, q2, by rw [if_pos q2]⟩)
      · exact .inr (.inl ⟨rfl, by simp [q2], by rw [if_neg q2]⟩)
    · exact .inl ⟨by simp [q], wide_of q (by omega)⟩
  have hbit : ¬ (w = -1 ∧ 1 < own e) := by omega
  have hv64 := ((WfE_iff e).1 hw).1.2.2.1
  have hh := fun τ h => rf_Holds2 (wide e w) e.v τ h hv64
  have hU := fun (h : e.l.length ≤ 16777216) ws τ (h2 : ws.length = e.l.length) (h3 : ∀ v ∈ ws, -1 ≤ v) => rf_under_step (e.set (wide e w) e.l) ws τ h h2 h3
    (fun p hp τ => rf_own g hg p τ (shp_part hs hp) (by have := part_nodes (e := e) hp; omega))
    (fun p hp v τ h => ih p hp v τ (shp_part hs hp) (by have := part_nodes (e := e) hp; omega) (((WfE_iff e).1 hw).2 p hp) h)
  replace hU := hU (by omega)
  have hN := fun ws τ h => rf_under_nil (e.set (wide e w) e.l) ws τ h
  have hei := fun (a : E) (ha : a ∈ e.l) (b : E) (hb : b ∈ e.l) τ => rf_either g hg a b (shp_part hs ha) (shp_part hs hb) (by have := part_nodes ha; omega) (by have := part_nodes hb; omega) τ
  have honp := fun (a : E) (ha : a ∈ e.l) => own_nonneg hg a (shp_part hs ha)
  obtain ⟨W, hW⟩ : ∃ W, wide e w = W := ⟨_, rfl⟩
  have hss := fun (ws : List Int) (q1 : ¬ (e.op = 1 ∧ e.w = 0)) (q2 : ¬ e.op = 8) (q3 : wants e W = some ws) => size_under hbit q1 q2 (by rw [hW]; exact q3)
  have hsn := fun (q1 : ¬ (e.op = 1 ∧ e.w = 0)) (q3 : wants e W = none) => size_none hbit q1 (by rw [hW]; exact q3)
  have hs8 := fun (ws : List Int) (q1 : ¬ (e.op = 1 ∧ e.w = 0)) (q3 : wants e W = some ws) => size_some hbit q1 (by rw [hW]; exact q3)
  have hs1 := fun (q1 : e.op = 1) (q2 : e.w = 0) => size_num hbit q1 q2
  rw [hW] at hwd hwp hh hU hN
  simp only [hW] at hss hs1
  have hwb : (W == 0) = false := by simp; omega
  have hnd := shp_nd hs
  clear ih hw hs hbit
  cases hnd with
  | sig ho h2 h3 h4 h5 =>
    have hn1 : ¬ (e.op = 1 ∧ e.w = 0) := by omega
    have hn8 : ¬ e.op = 8 := by omega
    have hwt := wants0 (e := e) (w := W) (by omega)
    replace hN := fun ws τ => hN ws τ h4
    simp only [encE_set] at hN
    obtain ⟨R, hR⟩ : ∃ R, size e w = R := ⟨_, rfl⟩
    rw [hR] at hsn hss ⊢
    have hN0 := fun τ => hN [0] τ
    have hss0 : own e = W → R = underM (e.set W e.l) [0] := fun h => by
      have := hss [] hn1 hn8 (by rw [hwt, if_neg (by omega), h4]; rfl)
      rw [this, under_set, under_set, h4]; rfl
    have hsn0 : own e ≠ W → R = (zE, 90) := fun h => hsn hn1 (by rw [hwt, if_pos h])
    obtain ⟨U, hU'⟩ : ∃ U, underM (e.set W e.l) [0] = U := ⟨_, rfl⟩
    rw [hU'] at hN0 hss0
    clear hU hei honp hss hsn hs8 hs1 hR hwt hN hU' hn1 hn8
    simp only [List.map_cons, List.map_nil] at hN0
    refine calls_x mixed Try.func42 b42 n42 rfl q42 (by simp) ?_; unfold c42 r42
    by_cases hq : own e = W
    · have hqb : (own e != W) = false := by simp [hq]
      rw [hss0 hq]
      clear hss0 hsn0
      rw [hq] at hown hwd hqb
      clear hq
      rcases hwd with ⟨w1, w2⟩ | ⟨rfl, w2, w3⟩ | ⟨rfl, w2, w3⟩
      · subst w2
        repeat' (first | simp (maxDischargeDepth := 9) -implicitDefEqProofs -dsimp only [go_sem, seval, *] | (with_reducible (first | apply Zb | apply Zc | apply Zd | apply Zg) <;> intro hq) | ((with_reducible refine Zv ?_ ?_); focus (first | omega | exact rfl)) | ((with_reducible refine Zt (fun oF hoF hnF hnF' => ?_)); (try simp only [upd_none, ne_eq, not_and] at hoF)) | ((with_reducible apply ACalls.one1); (focus ((first | with_reducible refine hown _ | with_reducible refine hN0 _ | with_reducible refine ACalls.flA (hown _) ?_ | with_reducible refine ACalls.flA (hN0 _) ?_) <;> (first | (simp (maxDischargeDepth := 9) -implicitDefEqProofs -dsimp only [go_sem, seval, *]; done) | omega))); (focus (first | trivial | with_reducible exact rfl | (simp (maxDischargeDepth := 9) -implicitDefEqProofs -dsimp only [go_sem, seval]; done)))))
        refine fin_eq ?_
        (repeat' (first | simp (maxDischargeDepth := 9) -implicitDefEqProofs -dsimp only [go_sem, seval, *])) <;> (repeat' refine And.intro ?_ ?_) <;> (first | omega | rfl | assumption | skip)
      · repeat' (first | simp (maxDischargeDepth := 9) -implicitDefEqProofs -dsimp only [go_sem, seval, *] | (with_reducible (first | apply Zb | apply Zc | apply Zd | apply Zg) <;> intro hq) | ((with_reducible refine Zv ?_ ?_); focus (first | omega | exact rfl)) | ((with_reducible refine Zt (fun oF hoF hnF hnF' => ?_)); (try simp only [upd_none, ne_eq, not_and] at hoF)) | ((with_reducible apply ACalls.one1); (focus ((first | with_reducible refine hown _ | with_reducible refine hN0 _ | with_reducible refine ACalls.flA (hown _) ?_ | with_reducible refine ACalls.flA (hN0 _) ?_) <;> (first | (simp (maxDischargeDepth := 9) -implicitDefEqProofs -dsimp only [go_sem, seval, *]; done) | omega))); (focus (first | trivial | with_reducible exact rfl | (simp (maxDischargeDepth := 9) -implicitDefEqProofs -dsimp only [go_sem, seval]; done)))))
        refine fin_eq ?_
        (repeat' (first | simp (maxDischargeDepth := 9) -implicitDefEqProofs -dsimp only [go_sem, seval, *])) <;> (repeat' refine And.intro ?_ ?_) <;> (first | omega | rfl | assumption | skip)
      · exfalso; omega
    · have hqb : (own e != W) = true := by simp [hq]
      rw [hsn0 hq, encE_zero]
      clear hss0 hsn0 hN0
      obtain ⟨o, ho'⟩ : ∃ o, own e = o := ⟨_, rfl⟩
      rw [ho'] at hown hwd hqb hq
      clear ho'
      rcases hwd with ⟨w1, w2⟩ | ⟨rfl, w2, w3⟩ | ⟨rfl, w2, w3⟩
      · subst w2
        repeat' (first | simp (maxDischargeDepth := 9) -implicitDefEqProofs -dsimp only [go_sem, seval, *] | (with_reducible (first | apply Zb | apply Zc | apply Zd | apply Zg) <;> intro hq) | ((with_reducible refine Zv ?_ ?_); focus (first | omega | exact rfl)) | ((with_reducible refine Zt (fun oF hoF hnF hnF' => ?_)); (try simp only [upd_none, ne_eq, not_and] at hoF)) | ((with_reducible apply ACalls.one1); (focus ((first | with_reducible refine hown _ | with_reducible refine ACalls.flA (hown _) ?_) <;> (first | (simp (maxDischargeDepth := 9) -implicitDefEqProofs -dsimp only [go_sem, seval, *]; done) | omega))); (focus (first | trivial | with_reducible exact rfl | (simp (maxDischargeDepth := 9) -implicitDefEqProofs -dsimp only [go_sem, seval]; done)))))
        refine fin_eq ?_
        (repeat' (first | simp (maxDischargeDepth := 9) -implicitDefEqProofs -dsimp only [go_sem, seval, *])) <;> (repeat' refine And.intro ?_ ?_) <;> (first | omega | rfl | assumption | skip)
      · exact (hq w3).elim
      · subst w2 w3
        clear hq
        repeat' (first | simp (maxDischargeDepth := 9) -implicitDefEqProofs -dsimp only [go_sem, seval, *] | (with_reducible (first | apply Zb | apply Zc | apply Zd | apply Zg) <;> intro hq) | ((with_reducible refine Zv ?_ ?_); focus (first | omega | exact rfl)) | ((with_reducible refine Zt (fun oF hoF hnF hnF' => ?_)); (try simp only [upd_none, ne_eq, not_and] at hoF)) | ((with_reducible apply ACalls.one1); (focus ((first | with_reducible refine hown _ | with_reducible refine ACalls.flA (hown _) ?_) <;> (first | (simp (maxDischargeDepth := 9) -implicitDefEqProofs -dsimp only [go_sem, seval, *]; done) | omega))); (focus (first | trivial | with_reducible exact rfl | (simp (maxDischargeDepth := 9) -implicitDefEqProofs -dsimp only [go_sem, seval]; done)))))
        refine fin_eq ?_
        (repeat' (first | simp (maxDischargeDepth := 9) -implicitDefEqProofs -dsimp only [go_sem, seval, *])) <;> (repeat' refine And.intro ?_ ?_) <;> (first | omega | rfl | assumption | skip)
  | idx ho h2 h3 h4 h5 a h6 h7 h8 =>
    have hn1 : ¬ (e.op = 1 ∧ e.w = 0) := by omega
    have hn8 : ¬ e.op = 8 := by omega
    have hle : e.l.length = 1 := by rw [h6]; rfl
    have hwt := wants0 (e := e) (w := W) (by omega)
    rw [hle] at hwt
    simp only [encE_set] at hU
    obtain ⟨R, hR⟩ : ∃ R, size e w = R := ⟨_, rfl⟩
    rw [hR] at hsn hss ⊢
    have hN0 := fun τ => hU [0] τ (by rw [hle]; rfl) (by simp)
    have hss0 : own e = W → R = underM (e.set W e.l) [0] := fun h => hss [0] hn1 hn8 (by rw [hwt, if_neg (by omega)]; rfl)
    have hsn0 : own e ≠ W → R = (zE, 90) := fun h => hsn hn1 (by rw [hwt, if_pos h])
    obtain ⟨U, hU'⟩ : ∃ U, underM (e.set W e.l) [0] = U := ⟨_, rfl⟩
    rw [hU'] at hN0 hss0
    obtain ⟨o, ho'⟩ : ∃ o, own e = o := ⟨_, rfl⟩
    rw [ho'] at hown hwd hss0 hsn0
    clear hU hei honp hss hsn hs8 hs1 hR hwt hN hU' hn1 hn8 h6 ho'
    simp only [List.map_cons, List.map_nil] at hN0
    refine calls_x mixed Try.func42 b42 n42 rfl q42 (by simp) ?_; unfold c42 r42
    by_cases hq : o = W
    · have hqb : (o != W) = false := by simp [hq]
      rw [hss0 hq]
      clear hss0 hsn0 hqb
      subst hq
      rcases hwd with ⟨w1, w2⟩ | ⟨rfl, w2, w3⟩ | ⟨rfl, w2, w3⟩
      · subst w2
        repeat' (first | simp (maxDischargeDepth := 9) -implicitDefEqProofs -dsimp only [go_sem, seval, *] | (with_reducible (first | apply Zb | apply Zc | apply Zd | apply Zg) <;> intro hq) | ((with_reducible refine Zv ?_ ?_); focus (first | omega | exact rfl)) | ((with_reducible refine Zt (fun oF hoF hnF hnF' => ?_)); (try simp only [upd_none, ne_eq, not_and] at hoF)) | ((with_reducible apply ACalls.one1); (focus ((first | with_reducible refine hown _ | with_reducible refine hN0 _ | with_reducible refine ACalls.flA (hown _) ?_ | with_reducible refine ACalls.flA (hN0 _) ?_) <;> (first | (simp (maxDischargeDepth := 9) -implicitDefEqProofs -dsimp only [go_sem, seval, *]; done) | omega))); (focus (first | trivial | with_reducible exact rfl | (simp (maxDischargeDepth := 9) -implicitDefEqProofs -dsimp only [go_sem, seval]; done)))))
        refine fin_eq ?_
        (repeat' (first | simp (maxDischargeDepth := 9) -implicitDefEqProofs -dsimp only [go_sem, seval, *])) <;> (repeat' refine And.intro ?_ ?_) <;> (first | omega | rfl | assumption | skip)
      · repeat' (first | simp (maxDischargeDepth := 9) -implicitDefEqProofs -dsimp only [go_sem, seval, *] | (with_reducible (first | apply Zb | apply Zc | apply Zd | apply Zg) <;> intro hq) | ((with_reducible refine Zv ?_ ?_); focus (first | omega | exact rfl)) | ((with_reducible refine Zt (fun oF hoF hnF hnF' => ?_)); (try simp only [upd_none, ne_eq, not_and] at hoF)) | ((with_reducible apply ACalls.one1); (focus ((first | with_reducible refine hown _ | with_reducible refine hN0 _ | with_reducible refine ACalls.flA (hown _) ?_ | with_reducible refine ACalls.flA (hN0 _) ?_) <;> (first | (simp (maxDischargeDepth := 9) -implicitDefEqProofs -dsimp only [go_sem, seval, *]; done) | omega))); (focus (first | trivial | with_reducible exact rfl | (simp (maxDischargeDepth := 9) -implicitDefEqProofs -dsimp only [go_sem, seval]; done)))))
        refine fin_eq ?_
        (repeat' (first | simp (maxDischargeDepth := 9) -implicitDefEqProofs -dsimp only [go_sem, seval, *])) <;> (repeat' refine And.intro ?_ ?_) <;> (first | omega | rfl | assumption | skip)
      · exfalso; omega
    · have hqb : (o != W) = true := by simp [hq]
      rw [hsn0 hq, encE_zero]
      clear hss0 hsn0 hN0
      rcases hwd with ⟨w1, w2⟩ | ⟨rfl, w2, w3⟩ | ⟨rfl, w2, w3⟩
      · subst w2
        clear hq
        repeat' (first | simp (maxDischargeDepth := 9) -implicitDefEqProofs -dsimp only [go_sem, seval, *] | (with_reducible (first | apply Zb | apply Zc | apply Zd | apply Zg) <;> intro hq) | ((with_reducible refine Zv ?_ ?_); focus (first | omega | exact rfl)) | ((with_reducible refine Zt (fun oF hoF hnF hnF' => ?_)); (try simp only [upd_none, ne_eq, not_and] at hoF)) | ((with_reducible apply ACalls.one1); (focus ((first | with_reducible refine hown _ | with_reducible refine ACalls.flA (hown _) ?_) <;> (first | (simp (maxDischargeDepth := 9) -implicitDefEqProofs -dsimp only [go_sem, seval, *]; done) | omega))); (focus (first | trivial | with_reducible exact rfl | (simp (maxDischargeDepth := 9) -implicitDefEqProofs -dsimp only [go_sem, seval]; done)))))
        refine fin_eq ?_
        (repeat' (first | simp (maxDischargeDepth := 9) -implicitDefEqProofs -dsimp only [go_sem, seval, *])) <;> (repeat' refine And.intro ?_ ?_) <;> (first | omega | rfl | assumption | skip)
      · exact (hq w3).elim
      · subst w2 w3
        clear hq
        repeat' (first | simp (maxDischargeDepth := 9) -implicitDefEqProofs -dsimp only [go_sem, seval, *] | (with_reducible (first | apply Zb | apply Zc | apply Zd | apply Zg) <;> intro hq) | ((with_reducible refine Zv ?_ ?_); focus (first | omega | exact rfl)) | ((with_reducible refine Zt (fun oF hoF hnF hnF' => ?_)); (try simp only [upd_none, ne_eq, not_and] at hoF)) | ((with_reducible apply ACalls.one1); (focus ((first | with_reducible refine hown _ | with_reducible refine ACalls.flA (hown _) ?_) <;> (first | (simp (maxDischargeDepth := 9) -implicitDefEqProofs -dsimp only [go_sem, seval, *]; done) | omega))); (focus (first | trivial | with_reducible exact rfl | (simp (maxDischargeDepth := 9) -implicitDefEqProofs -dsimp only [go_sem, seval]; done)))))
        refine fin_eq ?_
        (repeat' (first | simp (maxDischargeDepth := 9) -implicitDefEqProofs -dsimp only [go_sem, seval, *])) <;> (repeat' refine And.intro ?_ ?_) <;> (first | omega | rfl | assumption | skip)
  | un ho h2 h3 h4 h5 a h6 h7 h8 =>
    have hn1 : ¬ (e.op = 1 ∧ e.w = 0) := by omega
    have hn8 : ¬ e.op = 8 := by omega
    have hst : ∀ τ, ACalls Try.prog 81 [encE (e.set W e.l), .int .i64 W] τ (fun r σ' => r = .ret (.tup [encE (size e w).1, .int .i64 (size e w).2]) ∧ σ' = τ) := fun τ => by
      have h := rf_unary_step (e.set W e.l) W τ ho h7 h8 (by rw [set_l, h6]; rfl) (fun ws τ h h2 => hU ws τ h h2) (by omega)
      rw [wants_set (by omega)] at h
      cases hx : wants e W with
      | none => rw [hx] at h; rw [hsn hn1 hx]; exact h
      | some ws => rw [hx] at h; rw [hss ws hn1 hn8 hx]; exact h
    simp only [encE_set] at hst
    obtain ⟨R, hR⟩ : ∃ R, size e w = R := ⟨_, rfl⟩
    rw [hR] at hst ⊢
    obtain ⟨o, ho'⟩ : ∃ o, own e = o := ⟨_, rfl⟩
    rw [ho'] at hown hwd
    clear hU hei honp hss hsn hs8 hs1 hR hN hn1 hn8 ho'
    refine calls_x mixed Try.func42 b42 n42 rfl q42 (by simp) ?_; unfold c42 r42
    rcases hwd with ⟨w1, w2⟩ | ⟨rfl, w2, w3⟩ | ⟨rfl, w2, w3⟩
    · subst w2
      repeat' (first | simp (maxDischargeDepth := 9) -implicitDefEqProofs -dsimp only [go_sem, seval, *] | (with_reducible (first | apply Zb | apply Zc | apply Zd | apply Zg) <;> intro hq) | ((with_reducible refine Zv ?_ ?_); focus (first | omega | exact rfl)) | ((with_reducible refine Zt (fun oF hoF hnF hnF' => ?_)); (try simp only [upd_none, ne_eq, not_and] at hoF)) | ((with_reducible apply ACalls.one1); (focus ((first | with_reducible refine hown _ | with_reducible refine hst _ | with_reducible refine ACalls.flA (hown _) ?_ | with_reducible refine ACalls.flA (hst _) ?_) <;> (first | (simp (maxDischargeDepth := 9) -implicitDefEqProofs -dsimp only [go_sem, seval, *]; done) | omega))); (focus (first | trivial | with_reducible exact rfl | (simp (maxDischargeDepth := 9) -implicitDefEqProofs -dsimp only [go_sem, seval]; done)))))
      refine fin_eq ?_
      (repeat' (first | simp (maxDischargeDepth := 9) -implicitDefEqProofs -dsimp only [go_sem, seval, *])) <;> (repeat' refine And.intro ?_ ?_) <;> (first | omega | rfl | assumption | skip)
    · repeat' (first | simp (maxDischargeDepth := 9) -implicitDefEqProofs -dsimp only [go_sem, seval, *] | (with_reducible (first | apply Zb | apply Zc | apply Zd | apply Zg) <;> intro hq) | ((with_reducible refine Zv ?_ ?_); focus (first | omega | exact rfl)) | ((with_reducible refine Zt (fun oF hoF hnF hnF' => ?_)); (try simp only [upd_none, ne_eq, not_and] at hoF)) | ((with_reducible apply ACalls.one1); (focus ((first | with_reducible refine hown _ | with_reducible refine hst _ | with_reducible refine ACalls.flA (hown _) ?_ | with_reducible refine ACalls.flA (hst _) ?_) <;> (first | (simp (maxDischargeDepth := 9) -implicitDefEqProofs -dsimp only [go_sem, seval, *]; done) | omega))); (focus (first | trivial | with_reducible exact rfl | (simp (maxDischargeDepth := 9) -implicitDefEqProofs -dsimp only [go_sem, seval]; done)))))
      refine fin_eq ?_
      (repeat' (first | simp (maxDischargeDepth := 9) -implicitDefEqProofs -dsimp only [go_sem, seval, *])) <;> (repeat' refine And.intro ?_ ?_) <;> (first | omega | rfl | assumption | skip)
    · repeat' (first | simp (maxDischargeDepth := 9) -implicitDefEqProofs -dsimp only [go_sem, seval, *] | (with_reducible (first | apply Zb | apply Zc | apply Zd | apply Zg) <;> intro hq) | ((with_reducible refine Zv ?_ ?_); focus (first | omega | exact rfl)) | ((with_reducible refine Zt (fun oF hoF hnF hnF' => ?_)); (try simp only [upd_none, ne_eq, not_and] at hoF)) | ((with_reducible apply ACalls.one1); (focus ((first | with_reducible refine hown _ | with_reducible refine hst _ | with_reducible refine ACalls.flA (hown _) ?_ | with_reducible refine ACalls.flA (hst _) ?_) <;> (first | (simp (maxDischargeDepth := 9) -implicitDefEqProofs -dsimp only [go_sem, seval, *]; done) | omega))); (focus (first | trivial | with_reducible exact rfl | (simp (maxDischargeDepth := 9) -implicitDefEqProofs -dsimp only [go_sem, seval]; done)))))
      refine fin_eq ?_
      (repeat' (first | simp (maxDischargeDepth := 9) -implicitDefEqProofs -dsimp only [go_sem, seval, *])) <;> (repeat' refine And.intro ?_ ?_) <;> (first | omega | rfl | assumption | skip)
  | bin ho h2 h3 h4 h5 a b h6 h7 h8 =>
    have hn1 : ¬ (e.op = 1 ∧ e.w = 0) := by omega
    have hn8 : ¬ e.op = 8 := by omega
    have hst : ∀ τ, ACalls Try.prog 82 [encE (e.set W e.l), .int .i64 W] τ (fun r σ' => r = .ret (.tup [encE (size e w).1, .int .i64 (size e w).2]) ∧ σ' = τ) := fun τ => by
      have h := rf_binary_step (e.set W e.l) W τ ho h7 h8 (by rw [set_l, h6]; rfl) (fun ws τ h h2 => hU ws τ h h2) (by omega) hei honp
      rw [wants_set (by omega)] at h
      cases hx : wants e W with
      | none => rw [hx] at h; rw [hsn hn1 hx]; exact h
      | some ws => rw [hx] at h; rw [hss ws hn1 hn8 hx]; exact h
    simp only [encE_set] at hst
    obtain ⟨R, hR⟩ : ∃ R, size e w = R := ⟨_, rfl⟩
    rw [hR] at hst ⊢
    obtain ⟨o, ho'⟩ : ∃ o, own e = o := ⟨_, rfl⟩
    rw [ho'] at hown hwd
    clear hU hei honp hss hsn hs8 hs1 hR hN hn1 hn8 ho'
    refine calls_x mixed Try.func42 b42 n42 rfl q42 (by simp) ?_; unfold c42 r42
    rcases hwd with ⟨w1, w2⟩ | ⟨rfl, w2, w3⟩ | ⟨rfl, w2, w3⟩
    · subst w2
      repeat' (first | simp (maxDischargeDepth := 9) -implicitDefEqProofs -dsimp only [go_sem, seval, *] | (with_reducible (first | apply Zb | apply Zc | apply Zd | apply Zg) <;> intro hq) | ((with_reducible refine Zv ?_ ?_); focus (first | omega | exact rfl)) | ((with_reducible refine Zt (fun oF hoF hnF hnF' => ?_)); (try simp only [upd_none, ne_eq, not_and] at hoF)) | ((with_reducible apply ACalls.one1); (focus ((first | with_reducible refine hown _ | with_reducible refine hst _ | with_reducible refine ACalls.flA (hown _) ?_ | with_reducible refine ACalls.flA (hst _) ?_) <;> (first | (simp (maxDischargeDepth := 9) -implicitDefEqProofs -dsimp only [go_sem, seval, *]; done) | omega))); (focus (first | trivial | with_reducible exact rfl | (simp (maxDischargeDepth := 9) -implicitDefEqProofs -dsimp only [go_sem, seval]; done)))))
      refine fin_eq ?_
      (repeat' (first | simp (maxDischargeDepth := 9) -implicitDefEqProofs -dsimp only [go_sem, seval, *])) <;> (repeat' refine And.intro ?_ ?_) <;> (first | omega | rfl | assumption | skip)
    · repeat' (first | simp (maxDischargeDepth := 9) -implicitDefEqProofs -dsimp only [go_sem, seval, *] | (with_reducible (first | apply Zb | apply Zc | apply Zd | apply Zg) <;> intro hq) | ((with_reducible refine Zv ?_ ?_); focus (first | omega | exact rfl)) | ((with_reducible refine Zt (fun oF hoF hnF hnF' => ?_)); (try simp only [upd_none, ne_eq, not_and] at hoF)) | ((with_reducible apply ACalls.one1); (focus ((first | with_reducible refine hown _ | with_reducible refine hst _ | with_reducible refine ACalls.flA (hown _) ?_ | with_reducible refine ACalls.flA (hst _) ?_) <;> (first | (simp (maxDischargeDepth := 9) -implicitDefEqProofs -dsimp only [go_sem, seval, *]; done) | omega))); (focus (first | trivial | with_reducible exact rfl | (simp (maxDischargeDepth := 9) -implicitDefEqProofs -dsimp only [go_sem, seval]; done)))))
      refine fin_eq ?_
      (repeat' (first | simp (maxDischargeDepth := 9) -implicitDefEqProofs -dsimp only [go_sem, seval, *])) <;> (repeat' refine And.intro ?_ ?_) <;> (first | omega | rfl | assumption | skip)
    · repeat' (first | simp (maxDischargeDepth := 9) -implicitDefEqProofs -dsimp only [go_sem, seval, *] | (with_reducible (first | apply Zb | apply Zc | apply Zd | apply Zg) <;> intro hq) | ((with_reducible refine Zv ?_ ?_); focus (first | omega | exact rfl)) | ((with_reducible refine Zt (fun oF hoF hnF hnF' => ?_)); (try simp only [upd_none, ne_eq, not_and] at hoF)) | ((with_reducible apply ACalls.one1); (focus ((first | with_reducible refine hown _ | with_reducible refine hst _ | with_reducible refine ACalls.flA (hown _) ?_ | with_reducible refine ACalls.flA (hst _) ?_) <;> (first | (simp (maxDischargeDepth := 9) -implicitDefEqProofs -dsimp only [go_sem, seval, *]; done) | omega))); (focus (first | trivial | with_reducible exact rfl | (simp (maxDischargeDepth := 9) -implicitDefEqProofs -dsimp only [go_sem, seval]; done)))))
      refine fin_eq ?_
      (repeat' (first | simp (maxDischargeDepth := 9) -implicitDefEqProofs -dsimp only [go_sem, seval, *])) <;> (repeat' refine And.intro ?_ ?_) <;> (first | omega | rfl | assumption | skip)
  | cond ho h2 h3 h4 h5 h7 a b c h6 =>
    have hn1 : ¬ (e.op = 1 ∧ e.w = 0) := by omega
    have hn8 : ¬ e.op = 8 := by omega
    have hst := fun τ => hU [-1, W, W] τ (by rw [h6]; rfl) (by simp; omega)
    rw [← hss [-1, W, W] hn1 hn8 (wants6 ho)] at hst
    simp only [encE_set, List.map_cons, List.map_nil] at hst
    obtain ⟨R, hR⟩ : ∃ R, size e w = R := ⟨_, rfl⟩
    rw [hR] at hst ⊢
    obtain ⟨o, ho'⟩ : ∃ o, own e = o := ⟨_, rfl⟩
    rw [ho'] at hown hwd
    clear hU hei honp hss hsn hs8 hs1 hR hN hn1 hn8 ho' h6
    refine calls_x mixed Try.func42 b42 n42 rfl q42 (by simp) ?_; unfold c42 r42
    rcases hwd with ⟨w1, w2⟩ | ⟨rfl, w2, w3⟩ | ⟨rfl, w2, w3⟩
    · subst w2
      repeat' (first | simp (maxDischargeDepth := 9) -implicitDefEqProofs -dsimp only [go_sem, seval, *] | (with_reducible (first | apply Zb | apply Zc | apply Zd | apply Zg) <;> intro hq) | ((with_reducible refine Zv ?_ ?_); focus (first | omega | exact rfl)) | ((with_reducible refine Zt (fun oF hoF hnF hnF' => ?_)); (try simp only [upd_none, ne_eq, not_and] at hoF)) | ((with_reducible apply ACalls.one1); (focus ((first | with_reducible refine hown _ | with_reducible refine hst _ | with_reducible refine ACalls.flA (hown _) ?_ | with_reducible refine ACalls.flA (hst _) ?_) <;> (first | (simp (maxDischargeDepth := 9) -implicitDefEqProofs -dsimp only [go_sem, seval, *]; done) | omega))); (focus (first | trivial | with_reducible exact rfl | (simp (maxDischargeDepth := 9) -implicitDefEqProofs -dsimp only [go_sem, seval]; done)))))
      refine fin_eq ?_
      (repeat' (first | simp (maxDischargeDepth := 9) -implicitDefEqProofs -dsimp only [go_sem, seval, *])) <;> (repeat' refine And.intro ?_ ?_) <;> (first | omega | rfl | assumption | skip)
    · repeat' (first | simp (maxDischargeDepth := 9) -implicitDefEqProofs -dsimp only [go_sem, seval, *] | (with_reducible (first | apply Zb | apply Zc | apply Zd | apply Zg) <;> intro hq) | ((with_reducible refine Zv ?_ ?_); focus (first | omega | exact rfl)) | ((with_reducible refine Zt (fun oF hoF hnF hnF' => ?_)); (try simp only [upd_none, ne_eq, not_and] at hoF)) | ((with_reducible apply ACalls.one1); (focus ((first | with_reducible refine hown _ | with_reducible refine hst _ | with_reducible refine ACalls.flA (hown _) ?_ | with_reducible refine ACalls.flA (hst _) ?_) <;> (first | (simp (maxDischargeDepth := 9) -implicitDefEqProofs -dsimp only [go_sem, seval, *]; done) | omega))); (focus (first | trivial | with_reducible exact rfl | (simp (maxDischargeDepth := 9) -implicitDefEqProofs -dsimp only [go_sem, seval]; done)))))
      refine fin_eq ?_
      (repeat' (first | simp (maxDischargeDepth := 9) -implicitDefEqProofs -dsimp only [go_sem, seval, *])) <;> (repeat' refine And.intro ?_ ?_) <;> (first | omega | rfl | assumption | skip)
    · repeat' (first | simp (maxDischargeDepth := 9) -implicitDefEqProofs -dsimp only [go_sem, seval, *] | (with_reducible (first | apply Zb | apply Zc | apply Zd | apply Zg) <;> intro hq) | ((with_reducible refine Zv ?_ ?_); focus (first | omega | exact rfl)) | ((with_reducible refine Zt (fun oF hoF hnF hnF' => ?_)); (try simp only [upd_none, ne_eq, not_and] at hoF)) | ((with_reducible apply ACalls.one1); (focus ((first | with_reducible refine hown _ | with_reducible refine hst _ | with_reducible refine ACalls.flA (hown _) ?_ | with_reducible refine ACalls.flA (hst _) ?_) <;> (first | (simp (maxDischargeDepth := 9) -implicitDefEqProofs -dsimp only [go_sem, seval, *]; done) | omega))); (focus (first | trivial | with_reducible exact rfl | (simp (maxDischargeDepth := 9) -implicitDefEqProofs -dsimp only [go_sem, seval]; done)))))
      refine fin_eq ?_
      (repeat' (first | simp (maxDischargeDepth := 9) -implicitDefEqProofs -dsimp only [go_sem, seval, *])) <;> (repeat' refine And.intro ?_ ?_) <;> (first | omega | rfl | assumption | skip)
  | num ho h2 h3 h4 h5 h6 h7 h8 h9 =>
    have ho1 : own e = e.w := own1 ho
    rw [ho1] at hown hwd
    have hn8 : ¬ e.op = 8 := by omega
    have hwt := wants0 (e := e) (w := W) (.inl ho)
    rw [ho1] at hwt
    clear hU hei honp hs8 hN
    by_cases hz : e.w = 0
    · rw [hs1 ho hz]
      obtain ⟨b, hb⟩ : ∃ b, holds W e.v = b := ⟨_, rfl⟩
      rw [hb] at hh ⊢
      have hwd' : ((w == 0) = false ∧ W = w) ∨ (w = 0 ∧ W = 32) := by
        rcases hwd with q | ⟨_, q, _⟩ | ⟨q, _, q2⟩
        · exact .inl q
        · rw [hz] at q; simp at q
        · exact .inr ⟨q, q2⟩
      rw [hz] at hown
      clear hss hsn hs1 hb hwd h9 ho1 hwt
      refine calls_x mixed Try.func42 b42 n42 rfl q42 (by simp) ?_; unfold c42 r42
      cases b
      · rw [if_neg (by simp), encE_zero]
        rcases hwd' with ⟨w1, w2⟩ | ⟨w1, w2⟩
        · subst w2
          repeat' (first | simp (maxDischargeDepth := 9) -implicitDefEqProofs -dsimp only [go_sem, seval, *] | (with_reducible (first | apply Zb | apply Zc | apply Zd | apply Zg) <;> intro hq) | ((with_reducible refine Zv ?_ ?_); focus (first | omega | exact rfl)) | ((with_reducible refine Zt (fun oF hoF hnF hnF' => ?_)); (try simp only [upd_none, ne_eq, not_and] at hoF)) | ((with_reducible apply ACalls.one1); (focus ((first | with_reducible refine hown _ | with_reducible refine hh _ ?_ | with_reducible refine ACalls.flA (hown _) ?_ | with_reducible refine ACalls.flA (hh _ ?_) ?_) <;> (first | (simp (maxDischargeDepth := 9) -implicitDefEqProofs -dsimp only [go_sem, seval, *]; done) | omega))); (focus (first | trivial | with_reducible exact rfl | (simp (maxDischargeDepth := 9) -implicitDefEqProofs -dsimp only [go_sem, seval]; done)))))
          refine fin_eq ?_
          (repeat' (first | simp (maxDischargeDepth := 9) -implicitDefEqProofs -dsimp only [go_sem, seval, List.map_nil, *])) <;> (repeat' refine And.intro ?_ ?_) <;> (first | omega | rfl | assumption | skip)
        · subst w1 w2
          repeat' (first | simp (maxDischargeDepth := 9) -implicitDefEqProofs -dsimp only [go_sem, seval, *] | (with_reducible (first | apply Zb | apply Zc | apply Zd | apply Zg) <;> intro hq) | ((with_reducible refine Zv ?_ ?_); focus (first | omega | exact rfl)) | ((with_reducible refine Zt (fun oF hoF hnF hnF' => ?_)); (try simp only [upd_none, ne_eq, not_and] at hoF)) | ((with_reducible apply ACalls.one1); (focus ((first | with_reducible refine hown _ | with_reducible refine hh _ ?_ | with_reducible refine ACalls.flA (hown _) ?_ | with_reducible refine ACalls.flA (hh _ ?_) ?_) <;> (first | (simp (maxDischargeDepth := 9) -implicitDefEqProofs -dsimp only [go_sem, seval, *]; done) | omega))); (focus (first | trivial | with_reducible exact rfl | (simp (maxDischargeDepth := 9) -implicitDefEqProofs -dsimp only [go_sem, seval]; done)))))
          refine fin_eq ?_
          (repeat' (first | simp (maxDischargeDepth := 9) -implicitDefEqProofs -dsimp only [go_sem, seval, List.map_nil, *])) <;> (repeat' refine And.intro ?_ ?_) <;> (first | omega | rfl | assumption | skip)
      · rw [if_pos rfl, encE_num]
        rcases hwd' with ⟨w1, w2⟩ | ⟨w1, w2⟩
        · subst w2
          repeat' (first | simp (maxDischargeDepth := 9) -implicitDefEqProofs -dsimp only [go_sem, seval, *] | (with_reducible (first | apply Zb | apply Zc | apply Zd | apply Zg) <;> intro hq) | ((with_reducible refine Zv ?_ ?_); focus (first | omega | exact rfl)) | ((with_reducible refine Zt (fun oF hoF hnF hnF' => ?_)); (try simp only [upd_none, ne_eq, not_and] at hoF)) | ((with_reducible apply ACalls.one1); (focus ((first | with_reducible refine hown _ | with_reducible refine hh _ ?_ | with_reducible refine ACalls.flA (hown _) ?_ | with_reducible refine ACalls.flA (hh _ ?_) ?_) <;> (first | (simp (maxDischargeDepth := 9) -implicitDefEqProofs -dsimp only [go_sem, seval, *]; done) | omega))); (focus (first | trivial | with_reducible exact rfl | (simp (maxDischargeDepth := 9) -implicitDefEqProofs -dsimp only [go_sem, seval]; done)))))
          refine fin_eq ?_
          (repeat' (first | simp (maxDischargeDepth := 9) -implicitDefEqProofs -dsimp only [go_sem, seval, List.map_nil, *])) <;> (repeat' refine And.intro ?_ ?_) <;> (first | omega | rfl | assumption | skip)
        · subst w1 w2
          repeat' (first | simp (maxDischargeDepth := 9) -implicitDefEqProofs -dsimp only [go_sem, seval, *] | (with_reducible (first | apply Zb | apply Zc | apply Zd | apply Zg) <;> intro hq) | ((with_reducible refine Zv ?_ ?_); focus (first | omega | exact rfl)) | ((with_reducible refine Zt (fun oF hoF hnF hnF' => ?_)); (try simp only [upd_none, ne_eq, not_and] at hoF)) | ((with_reducible apply ACalls.one1); (focus ((first | with_reducible refine hown _ | with_reducible refine hh _ ?_ | with_reducible refine ACalls.flA (hown _) ?_ | with_reducible refine ACalls.flA (hh _ ?_) ?_) <;> (first | (simp (maxDischargeDepth := 9) -implicitDefEqProofs -dsimp only [go_sem, seval, *]; done) | omega))); (focus (first | trivial | with_reducible exact rfl | (simp (maxDischargeDepth := 9) -implicitDefEqProofs -dsimp only [go_sem, seval]; done)))))
          refine fin_eq ?_
          (repeat' (first | simp (maxDischargeDepth := 9) -implicitDefEqProofs -dsimp only [go_sem, seval, List.map_nil, *])) <;> (repeat' refine And.intro ?_ ?_) <;> (first | omega | rfl | assumption | skip)
    · have hn1 : ¬ (e.op = 1 ∧ e.w = 0) := fun h => hz h.2
      have hzb : (e.w != 0) = true := by simpa using hz
      have hzb2 : (e.w == 0) = false := by simpa using hz
      have hwd' : ((w == 0) = false ∧ W = w) ∨ (w = 0 ∧ e.w = W) := by
        rcases hwd with q | ⟨q, _, q2⟩ | ⟨_, q, _⟩
        · exact .inl q
        · exact .inr ⟨q, q2⟩
        · exact (hz q).elim
      by_cases hq : e.w = W
      · have hv := hss [] hn1 hn8 (by rw [hwt, if_neg (by omega), h6]; rfl)
        rw [under_set, h6] at hv
        have hv2 : size e w = (e.set W [], 0) := by rw [hv]; rfl
        rw [hv2, encE_set]
        have hqb : (e.w != W) = false := by simp [hq]
        rw [hq] at hown hzb hzb2 hqb hwd'
        clear hss hsn hs1 hwd h9 ho1 hwt hv hv2 hz h7 h8 hn1
        refine calls_x mixed Try.func42 b42 n42 rfl q42 (by simp) ?_; unfold c42 r42
        rcases hwd' with ⟨w1, w2⟩ | ⟨w1, w2⟩
        · subst w2
          repeat' (first | simp (maxDischargeDepth := 9) -implicitDefEqProofs -dsimp only [go_sem, seval, *] | (with_reducible (first | apply Zb | apply Zc | apply Zd | apply Zg) <;> intro hq) | ((with_reducible refine Zv ?_ ?_); focus (first | omega | exact rfl)) | ((with_reducible refine Zt (fun oF hoF hnF hnF' => ?_)); (try simp only [upd_none, ne_eq, not_and] at hoF)) | ((with_reducible apply ACalls.one1); (focus ((first | with_reducible refine hown _ | with_reducible refine ACalls.flA (hown _) ?_) <;> (first | (simp (maxDischargeDepth := 9) -implicitDefEqProofs -dsimp only [go_sem, seval, *]; done) | omega))); (focus (first | trivial | with_reducible exact rfl | (simp (maxDischargeDepth := 9) -implicitDefEqProofs -dsimp only [go_sem, seval]; done)))))
          refine fin_eq ?_
          (repeat' (first | simp (maxDischargeDepth := 9) -implicitDefEqProofs -dsimp only [go_sem, seval, List.map_nil, *])) <;> (repeat' refine And.intro ?_ ?_) <;> (first | omega | rfl | assumption | skip)
        · subst w1
          repeat' (first | simp (maxDischargeDepth := 9) -implicitDefEqProofs -dsimp only [go_sem, seval, *] | (with_reducible (first | apply Zb | apply Zc | apply Zd | apply Zg) <;> intro hq) | ((with_reducible refine Zv ?_ ?_); focus (first | omega | exact rfl)) | ((with_reducible refine Zt (fun oF hoF hnF hnF' => ?_)); (try simp only [upd_none, ne_eq, not_and] at hoF)) | ((with_reducible apply ACalls.one1); (focus ((first | with_reducible refine hown _ | with_reducible refine ACalls.flA (hown _) ?_) <;> (first | (simp (maxDischargeDepth := 9) -implicitDefEqProofs -dsimp only [go_sem, seval, *]; done) | omega))); (focus (first | trivial | with_reducible exact rfl | (simp (maxDischargeDepth := 9) -implicitDefEqProofs -dsimp only [go_sem, seval]; done)))))
          refine fin_eq ?_
          (repeat' (first | simp (maxDischargeDepth := 9) -implicitDefEqProofs -dsimp only [go_sem, seval, List.map_nil, *])) <;> (repeat' refine And.intro ?_ ?_) <;> (first | omega | rfl | assumption | skip)
      · rw [hsn hn1 (by rw [hwt, if_pos hq]), encE_zero]
        have hqb : (e.w != W) = true := by simp [hq]
        clear hss hsn hs1 hwd h9 ho1 hwt hz h7 h8 hn1
        refine calls_x mixed Try.func42 b42 n42 rfl q42 (by simp) ?_; unfold c42 r42
        rcases hwd' with ⟨w1, w2⟩ | ⟨w1, w2⟩
        · subst w2
          clear hq
          repeat' (first | simp (maxDischargeDepth := 9) -implicitDefEqProofs -dsimp only [go_sem, seval, *] | (with_reducible (first | apply Zb | apply Zc | apply Zd | apply Zg) <;> intro hq) | ((with_reducible refine Zv ?_ ?_); focus (first | omega | exact rfl)) | ((with_reducible refine Zt (fun oF hoF hnF hnF' => ?_)); (try simp only [upd_none, ne_eq, not_and] at hoF)) | ((with_reducible apply ACalls.one1); (focus ((first | with_reducible refine hown _ | with_reducible refine ACalls.flA (hown _) ?_) <;> (first | (simp (maxDischargeDepth := 9) -implicitDefEqProofs -dsimp only [go_sem, seval, *]; done) | omega))); (focus (first | trivial | with_reducible exact rfl | (simp (maxDischargeDepth := 9) -implicitDefEqProofs -dsimp only [go_sem, seval]; done)))))
          refine fin_eq ?_
          (repeat' (first | simp (maxDischargeDepth := 9) -implicitDefEqProofs -dsimp only [go_sem, seval, List.map_nil, *])) <;> (repeat' refine And.intro ?_ ?_) <;> (first | omega | rfl | assumption | skip)
        · exact (hq w2).elim
  | cat ho h2 h3 h4 h5 h7 h6 =>
    have hn1 : ¬ (e.op = 1 ∧ e.w = 0) := by omega
    have hn8 : ¬ e.op = 8 := by omega
    have hwt := wants7 (e := e) (w := W) ho
    obtain ⟨o, ho'⟩ : ∃ o, own e = o := ⟨_, rfl⟩
    rw [ho'] at hown hwd hwt
    clear hs8 hs1 hN hei honp
    by_cases hbad : o = 0 ∨ o ≠ W ∨ 64 < o
    · rw [hsn hn1 (by rw [hwt, if_pos hbad]), encE_zero]
      clear hss hsn hU hwt hn1 hn8 ho'
      have hc : (o == 0) = true ∨ ((o == 0) = false ∧ (o != W) = true) ∨ ((o == 0) = false ∧ (o != W) = false ∧ 64 < o) := by
        by_cases q : o = 0
        · exact .inl (by simp [q])
        · by_cases q2 : o = W
          · exact .inr (.inr ⟨by simp [q], by simp [q2], by omega⟩)
          · exact .inr (.inl ⟨by simp [q], by simp [q2]⟩)
      clear hbad
      refine calls_x mixed Try.func42 b42 n42 rfl q42 (by simp) ?_; unfold c42 r42
      rcases hwd with ⟨w1, w2⟩ | ⟨rfl, w2, w3⟩ | ⟨rfl, w2, w3⟩
      · subst w2
        rcases hc with c | ⟨c, c2⟩ | ⟨c, c2, c3⟩
        all_goals
          repeat' (first | simp (maxDischargeDepth := 9) -implicitDefEqProofs -dsimp only [go_sem, seval, gt_iff_lt, *] | (with_reducible (first | apply Zb | apply Zc | apply Zd | apply Zg) <;> intro hq) | ((with_reducible refine Zv ?_ ?_); focus (first | omega | exact rfl)) | ((with_reducible refine Zt (fun oF hoF hnF hnF' => ?_)); (try simp only [upd_none, ne_eq, not_and] at hoF)) | ((with_reducible apply ACalls.one1); (focus ((first | with_reducible refine hown _ | with_reducible refine ACalls.flA (hown _) ?_) <;> (first | (simp (maxDischargeDepth := 9) -implicitDefEqProofs -dsimp only [go_sem, seval, *]; done) | omega))); (focus (first | trivial | with_reducible exact rfl | (simp (maxDischargeDepth := 9) -implicitDefEqProofs -dsimp only [go_sem, seval]; done)))))
          refine fin_eq ?_
          (repeat' (first | simp (maxDischargeDepth := 9) -implicitDefEqProofs -dsimp only [go_sem, seval, *])) <;> (repeat' refine And.intro ?_ ?_) <;> (first | omega | rfl | assumption | skip)
      · rcases hc with c | ⟨c, c2⟩ | ⟨c, c2, c3⟩
        · rw [w2] at c; simp at c
        · rw [w3] at c2; simp at c2
        · subst w3
          repeat' (first | simp (maxDischargeDepth := 9) -implicitDefEqProofs -dsimp only [go_sem, seval, gt_iff_lt, *] | (with_reducible (first | apply Zb | apply Zc | apply Zd | apply Zg) <;> intro hq) | ((with_reducible refine Zv ?_ ?_); focus (first | omega | exact rfl)) | ((with_reducible refine Zt (fun oF hoF hnF hnF' => ?_)); (try simp only [upd_none, ne_eq, not_and] at hoF)) | ((with_reducible apply ACalls.one1); (focus ((first | with_reducible refine hown _ | with_reducible refine ACalls.flA (hown _) ?_) <;> (first | (simp (maxDischargeDepth := 9) -implicitDefEqProofs -dsimp only [go_sem, seval, *]; done) | omega))); (focus (first | trivial | with_reducible exact rfl | (simp (maxDischargeDepth := 9) -implicitDefEqProofs -dsimp only [go_sem, seval]; done)))))
          refine fin_eq ?_
          (repeat' (first | simp (maxDischargeDepth := 9) -implicitDefEqProofs -dsimp only [go_sem, seval, *])) <;> (repeat' refine And.intro ?_ ?_) <;> (first | omega | rfl | assumption | skip)
      · subst w2
        repeat' (first | simp (maxDischargeDepth := 9) -implicitDefEqProofs -dsimp only [go_sem, seval, gt_iff_lt, *] | (with_reducible (first | apply Zb | apply Zc | apply Zd | apply Zg) <;> intro hq) | ((with_reducible refine Zv ?_ ?_); focus (first | omega | exact rfl)) | ((with_reducible refine Zt (fun oF hoF hnF hnF' => ?_)); (try simp only [upd_none, ne_eq, not_and] at hoF)) | ((with_reducible apply ACalls.one1); (focus ((first | with_reducible refine hown _ | with_reducible refine ACalls.flA (hown _) ?_) <;> (first | (simp (maxDischargeDepth := 9) -implicitDefEqProofs -dsimp only [go_sem, seval, *]; done) | omega))); (focus (first | trivial | with_reducible exact rfl | (simp (maxDischargeDepth := 9) -implicitDefEqProofs -dsimp only [go_sem, seval]; done)))))
        refine fin_eq ?_
        (repeat' (first | simp (maxDischargeDepth := 9) -implicitDefEqProofs -dsimp only [go_sem, seval, *])) <;> (repeat' refine And.intro ?_ ?_) <;> (first | omega | rfl | assumption | skip)
    · have q1 : o ≠ 0 := fun h => hbad (.inl h)
      have q2 : o = W := by omega
      have q3 : ¬ 64 < o := by omega
      have hU0 := fun τ => hU (List.replicate e.l.length 0) τ (by simp) (fun v hv => by have := (List.mem_replicate.1 hv).2; omega)
      rw [← hss _ hn1 hn8 (by rw [hwt, if_neg hbad])] at hU0
      simp only [encE_set] at hU0
      obtain ⟨R, hR⟩ : ∃ R, size e w = R := ⟨_, rfl⟩
      rw [hR] at hU0 ⊢
      have hrep : ∀ n : Nat, List.replicate n (AV.int .i64 0) = (List.replicate n (0 : Int)).map encInt := fun n => by simp
      subst q2
      clear hss hsn hU hwt hn1 hn8 ho' hbad hR
      refine calls_x mixed Try.func42 b42 n42 rfl q42 (by simp) ?_; unfold c42 r42
      rcases hwd with ⟨w1, w2⟩ | ⟨rfl, w2, w3⟩ | ⟨rfl, w2, w3⟩
      · subst w2
        repeat' (first | simp (maxDischargeDepth := 9) -implicitDefEqProofs -dsimp only [go_sem, seval, gt_iff_lt, *] | (with_reducible (first | apply Zb | apply Zc | apply Zd | apply Zg) <;> intro hq) | ((with_reducible refine Zv ?_ ?_); focus (first | omega | exact rfl)) | ((with_reducible refine Zt (fun oF hoF hnF hnF' => ?_)); (try simp only [upd_none, ne_eq, not_and] at hoF)) | ((with_reducible apply ACalls.one1); (focus ((first | with_reducible refine hown _ | with_reducible refine hU0 _ | with_reducible refine ACalls.flA (hown _) ?_ | with_reducible refine ACalls.flA (hU0 _) ?_) <;> (first | (simp (maxDischargeDepth := 9) -implicitDefEqProofs -dsimp only [go_sem, seval, *]; done) | omega))); (focus (first | trivial | with_reducible exact rfl | (simp (maxDischargeDepth := 9) -implicitDefEqProofs -dsimp only [go_sem, seval]; done)))) | ((with_reducible apply id_one0); (focus (intro tS hS; ((first | with_reducible refine hown _ | with_reducible refine hU0 _ | with_reducible refine ACalls.flA (hown _) ?_ | with_reducible refine ACalls.flA (hU0 _) ?_) <;> (first | (simp (maxDischargeDepth := 9) -implicitDefEqProofs -dsimp only [go_sem, seval, *]; done) | omega | ((with_reducible refine Sub.get hS ?_); simp (maxDischargeDepth := 9) -implicitDefEqProofs -dsimp only [go_sem, seval, *]; done))))); (focus (first | trivial | (simp (maxDischargeDepth := 9) -implicitDefEqProofs -dsimp only [go_sem, seval, *]; done)))))
        refine fin_eq ?_
        (repeat' (first | simp (maxDischargeDepth := 9) -implicitDefEqProofs -dsimp only [go_sem, seval, *])) <;> (repeat' refine And.intro ?_ ?_) <;> (first | omega | rfl | assumption | skip)
      · repeat' (first | simp (maxDischargeDepth := 9) -implicitDefEqProofs -dsimp only [go_sem, seval, gt_iff_lt, *] | (with_reducible (first | apply Zb | apply Zc | apply Zd | apply Zg) <;> intro hq) | ((with_reducible refine Zv ?_ ?_); focus (first | omega | exact rfl)) | ((with_reducible refine Zt (fun oF hoF hnF hnF' => ?_)); (try simp only [upd_none, ne_eq, not_and] at hoF)) | ((with_reducible apply ACalls.one1); (focus ((first | with_reducible refine hown _ | with_reducible refine hU0 _ | with_reducible refine ACalls.flA (hown _) ?_ | with_reducible refine ACalls.flA (hU0 _) ?_) <;> (first | (simp (maxDischargeDepth := 9) -implicitDefEqProofs -dsimp only [go_sem, seval, *]; done) | omega))); (focus (first | trivial | with_reducible exact rfl | (simp (maxDischargeDepth := 9) -implicitDefEqProofs -dsimp only [go_sem, seval]; done)))) | ((with_reducible apply id_one0); (focus (intro tS hS; ((first | with_reducible refine hown _ | with_reducible refine hU0 _ | with_reducible refine ACalls.flA (hown _) ?_ | with_reducible refine ACalls.flA (hU0 _) ?_) <;> (first | (simp (maxDischargeDepth := 9) -implicitDefEqProofs -dsimp only [go_sem, seval, *]; done) | omega | ((with_reducible refine Sub.get hS ?_); simp (maxDischargeDepth := 9) -implicitDefEqProofs -dsimp only [go_sem, seval, *]; done))))); (focus (first | trivial | (simp (maxDischargeDepth := 9) -implicitDefEqProofs -dsimp only [go_sem, seval, *]; done)))))
        refine fin_eq ?_
        (repeat' (first | simp (maxDischargeDepth := 9) -implicitDefEqProofs -dsimp only [go_sem, seval, *])) <;> (repeat' refine And.intro ?_ ?_) <;> (first | omega | rfl | assumption | skip)
      · exact (q1 w2).elim
  | ext ho h2 h3 h4 h5 a h6 h7 h8 h9 h10 =>
    have ho1 : own e = e.w := own8 ho
    rw [ho1] at hown hwd
    have hn1 : ¬ (e.op = 1 ∧ e.w = 0) := by omega
    have hle : e.l.length = 1 := by rw [h6]; rfl
    have hwt := wants0 (e := e) (w := W) (by omega)
    rw [ho1, hle] at hwt
    have hwd' : ((w == 0) = false ∧ W = w) ∨ (w = 0 ∧ (e.w == 0) = false ∧ e.w = W) := by
      rcases hwd with q | ⟨q, q1, q2⟩ | ⟨_, q, _⟩
      · exact .inl q
      · exact .inr ⟨q, q1, q2⟩
      · omega
    clear hei honp hs1 hN hss hwd
    by_cases hq : e.w = W
    · have hqb : (e.w != W) = false := by simp [hq]
      have hv := hs8 [0] hn1 (by rw [hwt, if_neg (by omega)]; rfl)
      have hU0 := fun τ => hU [0] τ (by rw [hle]; rfl) (by simp)
      have hus := under_set e W [0]
      have hup := under_part (e := e) (W := W) (ws := [0])
      have hlen : (underM (e.set W e.l) [0]).2 = 0 → ∃ x, (runL (e.l.map size) [0]).1 = [x] := fun h => by
        obtain ⟨k1, _⟩ := runL_ok e.l [0] (by rw [hle]; rfl) (hup h).2
        exact len1 (by rw [k1, hle])
      rw [sizeK] at hv
      simp only [encE_set] at hU0
      simp only [hW] at hv
      clear hU hs8 hsn hwt hn1
      obtain ⟨U, hU'⟩ : ∃ U, underM (e.set W e.l) [0] = U := ⟨_, rfl⟩
      rw [hU'] at hU0 hus hup hlen
      obtain ⟨R, hR⟩ : ∃ R, runL (e.l.map size) [0] = R := ⟨_, rfl⟩
      rw [hR] at hv hus hup hlen
      clear hU' hR
      by_cases hf : U.2 = 0
      · obtain ⟨k1, k2⟩ := hup hf
        obtain ⟨x, hx⟩ := hlen hf
        rw [k1] at hU0
        rw [if_neg (by omega)] at hv
        rw [hx] at hv hU0
        have hp0 : part0 [x] = x.w := rfl
        have hx8 : encEs (e.set W [x]) = [encE x] := by rw [encEs_eq]; rfl
        rw [hp0] at hv
        simp only [encE_set, List.map_cons, List.map_nil] at hU0
        clear hus hup hlen k1 k2 hx hp0 hf
        rw [hq] at hown hqb hwd'
        by_cases hbad : e.n = 33 ∧ x.w < W ∨ e.n ≠ 33 ∧ W < x.w
        · rw [if_pos ⟨ho, hbad⟩] at hv
          rw [hv, encE_zero]
          clear hv hW
          refine calls_x mixed Try.func42 b42 n42 rfl q42 (by simp) ?_; unfold c42 r42
          rcases hwd' with ⟨w1, w2⟩ | ⟨rfl, w2, w3⟩
          · subst w2
            repeat' (first | simp (maxDischargeDepth := 9) -implicitDefEqProofs -dsimp only [go_sem, seval, gt_iff_lt, List.getElem?_cons_zero, set_op, set_w, set_v, set_sig, set_hi, set_lo, set_n, *] | (with_reducible (first | apply Zb | apply Zc | apply Zd | apply Zg) <;> intro hq) | ((with_reducible refine Zv ?_ ?_); focus (first | omega | exact rfl)) | ((with_reducible refine Zt (fun oF hoF hnF hnF' => ?_)); (try simp only [upd_none, ne_eq, not_and] at hoF)) | ((with_reducible apply ACalls.one1); (focus ((first | with_reducible refine hown _ | with_reducible refine hU0 _ | with_reducible refine ACalls.flA (hown _) ?_ | with_reducible refine ACalls.flA (hU0 _) ?_) <;> (first | (simp (maxDischargeDepth := 9) -implicitDefEqProofs -dsimp only [go_sem, seval, *]; done) | omega))); (focus (first | trivial | with_reducible exact rfl | (simp (maxDischargeDepth := 9) -implicitDefEqProofs -dsimp only [go_sem, seval]; done)))))
            all_goals first | (exfalso; omega) | skip
            all_goals
              refine fin_eq ?_
              (repeat' (first | simp (maxDischargeDepth := 9) -implicitDefEqProofs -dsimp only [go_sem, seval, *])) <;> (repeat' refine And.intro ?_ ?_) <;> (first | omega | rfl | assumption | skip)
          · repeat' (first | simp (maxDischargeDepth := 9) -implicitDefEqProofs -dsimp only [go_sem, seval, gt_iff_lt, List.getElem?_cons_zero, set_op, set_w, set_v, set_sig, set_hi, set_lo, set_n, *] | (with_reducible (first | apply Zb | apply Zc | apply Zd | apply Zg) <;> intro hq) | ((with_reducible refine Zv ?_ ?_); focus (first | omega | exact rfl)) | ((with_reducible refine Zt (fun oF hoF hnF hnF' => ?_)); (try simp only [upd_none, ne_eq, not_and] at hoF)) | ((with_reducible apply ACalls.one1); (focus ((first | with_reducible refine hown _ | with_reducible refine hU0 _ | with_reducible refine ACalls.flA (hown _) ?_ | with_reducible refine ACalls.flA (hU0 _) ?_) <;> (first | (simp (maxDischargeDepth := 9) -implicitDefEqProofs -dsimp only [go_sem, seval, *]; done) | omega))); (focus (first | trivial | with_reducible exact rfl | (simp (maxDischargeDepth := 9) -implicitDefEqProofs -dsimp only [go_sem, seval]; done)))))
            all_goals first | (exfalso; omega) | skip
            all_goals
              refine fin_eq ?_
              (repeat' (first | simp (maxDischargeDepth := 9) -implicitDefEqProofs -dsimp only [go_sem, seval, *])) <;> (repeat' refine And.intro ?_ ?_) <;> (first | omega | rfl | assumption | skip)
        · rw [if_neg (fun h => hbad h.2)] at hv
          rw [hv, encE_set]
          clear hv hW
          refine calls_x mixed Try.func42 b42 n42 rfl q42 (by simp) ?_; unfold c42 r42
          rcases hwd' with ⟨w1, w2⟩ | ⟨rfl, w2, w3⟩
          · subst w2
            repeat' (first | simp (maxDischargeDepth := 9) -implicitDefEqProofs -dsimp only [go_sem, seval, gt_iff_lt, List.getElem?_cons_zero, set_op, set_w, set_v, set_sig, set_hi, set_lo, set_n, *] | (with_reducible (first | apply Zb | apply Zc | apply Zd | apply Zg) <;> intro hq) | ((with_reducible refine Zv ?_ ?_); focus (first | omega | exact rfl)) | ((with_reducible refine Zt (fun oF hoF hnF hnF' => ?_)); (try simp only [upd_none, ne_eq, not_and] at hoF)) | ((with_reducible apply ACalls.one1); (focus ((first | with_reducible refine hown _ | with_reducible refine hU0 _ | with_reducible refine ACalls.flA (hown _) ?_ | with_reducible refine ACalls.flA (hU0 _) ?_) <;> (first | (simp (maxDischargeDepth := 9) -implicitDefEqProofs -dsimp only [go_sem, seval, *]; done) | omega))); (focus (first | trivial | with_reducible exact rfl | (simp (maxDischargeDepth := 9) -implicitDefEqProofs -dsimp only [go_sem, seval]; done)))))
            all_goals first | (exfalso; omega) | skip
            all_goals
              refine fin_eq ?_
              (repeat' (first | simp (maxDischargeDepth := 9) -implicitDefEqProofs -dsimp only [go_sem, seval, List.map_cons, List.map_nil, *])) <;> (repeat' refine And.intro ?_ ?_) <;> (first | omega | rfl | assumption | skip)
          · repeat' (first | simp (maxDischargeDepth := 9) -implicitDefEqProofs -dsimp only [go_sem, seval, gt_iff_lt, List.getElem?_cons_zero, set_op, set_w, set_v, set_sig, set_hi, set_lo, set_n, *] | (with_reducible (first | apply Zb | apply Zc | apply Zd | apply Zg) <;> intro hq) | ((with_reducible refine Zv ?_ ?_); focus (first | omega | exact rfl)) | ((with_reducible refine Zt (fun oF hoF hnF hnF' => ?_)); (try simp only [upd_none, ne_eq, not_and] at hoF)) | ((with_reducible apply ACalls.one1); (focus ((first | with_reducible refine hown _ | with_reducible refine hU0 _ | with_reducible refine ACalls.flA (hown _) ?_ | with_reducible refine ACalls.flA (hU0 _) ?_) <;> (first | (simp (maxDischargeDepth := 9) -implicitDefEqProofs -dsimp only [go_sem, seval, *]; done) | omega))); (focus (first | trivial | with_reducible exact rfl | (simp (maxDischargeDepth := 9) -implicitDefEqProofs -dsimp only [go_sem, seval]; done)))))
            all_goals first | (exfalso; omega) | skip
            all_goals
              refine fin_eq ?_
              (repeat' (first | simp (maxDischargeDepth := 9) -implicitDefEqProofs -dsimp only [go_sem, seval, List.map_cons, List.map_nil, *])) <;> (repeat' refine And.intro ?_ ?_) <;> (first | omega | rfl | assumption | skip)
      · have hf2 : R.2 ≠ 0 := fun h => hf (by rw [hus, if_neg (by omega)])
        rw [if_pos hf2] at hv hus
        have hfb : (R.2 != 0) = true := by simpa using hf2
        rw [hv, encE_zero]
        rw [hus] at hU0
        simp only [encE_zero] at hU0
        rw [hq] at hown hqb hwd'
        clear hus hup hlen hf hf2 hv hW
        obtain ⟨f, hf⟩ : ∃ f, R.2 = f := ⟨_, rfl⟩
        rw [hf] at hU0 hfb ⊢
        clear hf
        refine calls_x mixed Try.func42 b42 n42 rfl q42 (by simp) ?_; unfold c42 r42
        rcases hwd' with ⟨w1, w2⟩ | ⟨rfl, w2, w3⟩
        · subst w2
          repeat' (first | simp (maxDischargeDepth := 9) -implicitDefEqProofs -dsimp only [go_sem, seval, gt_iff_lt, *] | (with_reducible (first | apply Zb | apply Zc | apply Zd | apply Zg) <;> intro hq) | ((with_reducible refine Zv ?_ ?_); focus (first | omega | exact rfl)) | ((with_reducible refine Zt (fun oF hoF hnF hnF' => ?_)); (try simp only [upd_none, ne_eq, not_and] at hoF)) | ((with_reducible apply ACalls.one1); (focus ((first | with_reducible refine hown _ | with_reducible refine hU0 _ | with_reducible refine ACalls.flA (hown _) ?_ | with_reducible refine ACalls.flA (hU0 _) ?_) <;> (first | (simp (maxDischargeDepth := 9) -implicitDefEqProofs -dsimp only [go_sem, seval, *]; done) | omega))); (focus (first | trivial | with_reducible exact rfl | (simp (maxDischargeDepth := 9) -implicitDefEqProofs -dsimp only [go_sem, seval]; done)))))
          refine fin_eq ?_
          (repeat' (first | simp (maxDischargeDepth := 9) -implicitDefEqProofs -dsimp only [go_sem, seval, *])) <;> (repeat' refine And.intro ?_ ?_) <;> (first | omega | rfl | assumption | skip)
        · repeat' (first | simp (maxDischargeDepth := 9) -implicitDefEqProofs -dsimp only [go_sem, seval, gt_iff_lt, *] | (with_reducible (first | apply Zb | apply Zc | apply Zd | apply Zg) <;> intro hq) | ((with_reducible refine Zv ?_ ?_); focus (first | omega | exact rfl)) | ((with_reducible refine Zt (fun oF hoF hnF hnF' => ?_)); (try simp only [upd_none, ne_eq, not_and] at hoF)) | ((with_reducible apply ACalls.one1); (focus ((first | with_reducible refine hown _ | with_reducible refine hU0 _ | with_reducible refine ACalls.flA (hown _) ?_ | with_reducible refine ACalls.flA (hU0 _) ?_) <;> (first | (simp (maxDischargeDepth := 9) -implicitDefEqProofs -dsimp only [go_sem, seval, *]; done) | omega))); (focus (first | trivial | with_reducible exact rfl | (simp (maxDischargeDepth := 9) -implicitDefEqProofs -dsimp only [go_sem, seval]; done)))))
          refine fin_eq ?_
          (repeat' (first | simp (maxDischargeDepth := 9) -implicitDefEqProofs -dsimp only [go_sem, seval, *])) <;> (repeat' refine And.intro ?_ ?_) <;> (first | omega | rfl | assumption | skip)
    · have hqb : (e.w != W) = true := by simp [hq]
      rw [hsn hn1 (by rw [hwt, if_pos hq]), encE_zero]
      clear hU hs8 hsn hwt hn1 hW
      refine calls_x mixed Try.func42 b42 n42 rfl q42 (by simp) ?_; unfold c42 r42
      rcases hwd' with ⟨w1, w2⟩ | ⟨w1, w2, w3⟩
      · subst w2
        clear hq
        repeat' (first | simp (maxDischargeDepth := 9) -implicitDefEqProofs -dsimp only [go_sem, seval, *] | (with_reducible (first | apply Zb | apply Zc | apply Zd | apply Zg) <;> intro hq) | ((with_reducible refine Zv ?_ ?_); focus (first | omega | exact rfl)) | ((with_reducible refine Zt (fun oF hoF hnF hnF' => ?_)); (try simp only [upd_none, ne_eq, not_and] at hoF)) | ((with_reducible apply ACalls.one1); (focus ((first | with_reducible refine hown _ | with_reducible refine ACalls.flA (hown _) ?_) <;> (first | (simp (maxDischargeDepth := 9) -implicitDefEqProofs -dsimp only [go_sem, seval, *]; done) | omega))); (focus (first | trivial | with_reducible exact rfl | (simp (maxDischargeDepth := 9) -implicitDefEqProofs -dsimp only [go_sem, seval]; done)))))
        refine fin_eq ?_
        (repeat' (first | simp (maxDischargeDepth := 9) -implicitDefEqProofs -dsimp only [go_sem, seval, *])) <;> (repeat' refine And.intro ?_ ?_) <;> (first | omega | rfl | assumption | skip)
      · exact (hq w3).elim
end Go.Proofs.Ytdiebjnjhgbklaa

namespace Go.Proofs.Ytdiebjnjhgbklaa
open Abs Fil Fil.Sz
theorem rf_Expr (d : Flat) (e : E) (w : Int) (σ : Sig) (hd : d.sigs.length ≤ 1000000000000) (he : nodes e ≤ 16777216) (hw : WfE e) : ACalls Try.prog 17 [encD d, encE e, .int .i64 w] σ (fun r σ' => r = .ret (.tup [encE (exprD d e w).1, .int .i64 (exprD d e w).2]) ∧ σ' = σ) := by
  have h1 := encEs_eq e
  have c1 := fun τ => rf_Signals d.sigs τ hd
  have c2 := fun τ => rf_Shape d.sigs hd e τ he hw
  have c3 := fun τ => rf_Nodes e τ he
  have c4 := fun τ => rf_Deep e τ he
  have c5 := fun (h : SgOk d.sigs) (h2 : shp d.sigs e = true) τ h0 => rf_sized d.sigs h e w τ h2 he hw h0
  have hso := sigsOk_ok (l := d.sigs)
  have k1 := exprD_bad (d := d) (e := e) (w := w)
  have k2 := exprD_much (d := d) (e := e) (w := w)
  have k3 := exprD_ok (d := d) (e := e) (w := w)
  obtain ⟨R, hR⟩ : ∃ R, exprD d e w = R := ⟨_, rfl⟩
  rw [hR] at k1 k2 k3 ⊢
  clear hR
  refine calls_x mixed Try.func17 b17 n17 rfl q17 (by simp) ?_; unfold c17 r17
  obtain ⟨a, ha⟩ : ∃ a, sigsOk d.sigs = a := ⟨_, rfl⟩
  obtain ⟨b, hb⟩ : ∃ a, shp d.sigs e = a := ⟨_, rfl⟩
  rw [ha] at c1 k1 k2 k3 hso
  rw [hb] at c2 k1 k2 k3 c5
  clear ha hb
  cases a
  · rw [k1 (.inl rfl), encE_zero]
    clear k1 k2 k3 c5
    repeat' (first | simp (maxDischargeDepth := 9) -implicitDefEqProofs -dsimp only [go_sem, seval, *] | ((with_reducible refine Zt (fun oF hoF hnF hnF' => ?_)); (try simp only [upd_none, ne_eq, not_and] at hoF)) | ((with_reducible apply ACalls.one1); (focus ((first | with_reducible refine c1 _ | with_reducible refine ACalls.flA (c1 _) ?_) <;> (first | (simp (maxDischargeDepth := 9) -implicitDefEqProofs -dsimp only [go_sem, seval, *]; done) | omega))); (focus (first | trivial | with_reducible exact rfl | (simp (maxDischargeDepth := 9) -implicitDefEqProofs -dsimp only [go_sem, seval]; done)))))
    refine fin_eq ?_
    (repeat' (first | simp (maxDischargeDepth := 9) -implicitDefEqProofs -dsimp only [go_sem, seval, *])) <;> (repeat' refine And.intro ?_ ?_) <;> (first | omega | rfl | assumption | skip)
  by_cases w0 : w < 0
  · rw [k1 (.inr (.inl w0)), encE_zero]
    clear k1 k2 k3 c5
    repeat' (first | simp (maxDischargeDepth := 9) -implicitDefEqProofs -dsimp only [go_sem, seval, *] | ((with_reducible refine Zt (fun oF hoF hnF hnF' => ?_)); (try simp only [upd_none, ne_eq, not_and] at hoF)) | ((with_reducible apply ACalls.one1); (focus ((first | with_reducible refine c1 _ | with_reducible refine ACalls.flA (c1 _) ?_) <;> (first | (simp (maxDischargeDepth := 9) -implicitDefEqProofs -dsimp only [go_sem, seval, *]; done) | omega))); (focus (first | trivial | with_reducible exact rfl | (simp (maxDischargeDepth := 9) -implicitDefEqProofs -dsimp only [go_sem, seval]; done)))))
    refine fin_eq ?_
    (repeat' (first | simp (maxDischargeDepth := 9) -implicitDefEqProofs -dsimp only [go_sem, seval, *])) <;> (repeat' refine And.intro ?_ ?_) <;> (first | omega | rfl | assumption | skip)
  by_cases w1 : 64 < w
  · rw [k1 (.inr (.inr (.inl w1))), encE_zero]
    clear k1 k2 k3 c5
    repeat' (first | simp (maxDischargeDepth := 9) -implicitDefEqProofs -dsimp only [go_sem, seval, gt_iff_lt, *] | ((with_reducible refine Zt (fun oF hoF hnF hnF' => ?_)); (try simp only [upd_none, ne_eq, not_and] at hoF)) | ((with_reducible apply ACalls.one1); (focus ((first | with_reducible refine c1 _ | with_reducible refine ACalls.flA (c1 _) ?_) <;> (first | (simp (maxDischargeDepth := 9) -implicitDefEqProofs -dsimp only [go_sem, seval, *]; done) | omega))); (focus (first | trivial | with_reducible exact rfl | (simp (maxDischargeDepth := 9) -implicitDefEqProofs -dsimp only [go_sem, seval]; done)))))
    refine fin_eq ?_
    (repeat' (first | simp (maxDischargeDepth := 9) -implicitDefEqProofs -dsimp only [go_sem, seval, *])) <;> (repeat' refine And.intro ?_ ?_) <;> (first | omega | rfl | assumption | skip)
  cases b
  · rw [k1 (.inr (.inr (.inr rfl))), encE_zero]
    clear k1 k2 k3 c5
    repeat' (first | simp (maxDischargeDepth := 9) -implicitDefEqProofs -dsimp only [go_sem, seval, gt_iff_lt, *] | ((with_reducible refine Zt (fun oF hoF hnF hnF' => ?_)); (try simp only [upd_none, ne_eq, not_and] at hoF)) | ((with_reducible apply ACalls.one1); (focus ((first | with_reducible refine c1 _ | with_reducible refine c2 _ | with_reducible refine ACalls.flA (c1 _) ?_ | with_reducible refine ACalls.flA (c2 _) ?_) <;> (first | (simp (maxDischargeDepth := 9) -implicitDefEqProofs -dsimp only [go_sem, seval, *]; done) | omega))); (focus (first | trivial | with_reducible exact rfl | (simp (maxDischargeDepth := 9) -implicitDefEqProofs -dsimp only [go_sem, seval]; done)))))
    refine fin_eq ?_
    (repeat' (first | simp (maxDischargeDepth := 9) -implicitDefEqProofs -dsimp only [go_sem, seval, *])) <;> (repeat' refine And.intro ?_ ?_) <;> (first | omega | rfl | assumption | skip)
  have hbad : ¬ (true = false ∨ w < 0 ∨ 64 < w ∨ true = false) := by simp; omega
  by_cases hm : 65536 < nodes e
  · rw [k2 hbad (.inl hm), encE_zero]
    have hm2 : (65536 : Int) < (nodes e : Nat) := by omega
    clear k1 k2 k3 c5 hbad
    repeat' (first | simp (maxDischargeDepth := 9) -implicitDefEqProofs -dsimp only [go_sem, seval, gt_iff_lt, *] | ((with_reducible refine Zt (fun oF hoF hnF hnF' => ?_)); (try simp only [upd_none, ne_eq, not_and] at hoF)) | ((with_reducible apply ACalls.one1); (focus ((first | with_reducible refine c1 _ | with_reducible refine c2 _ | with_reducible refine c3 _ | with_reducible refine c4 _ | with_reducible refine ACalls.flA (c1 _) ?_ | with_reducible refine ACalls.flA (c2 _) ?_ | with_reducible refine ACalls.flA (c3 _) ?_ | with_reducible refine ACalls.flA (c4 _) ?_) <;> (first | (simp (maxDischargeDepth := 9) -implicitDefEqProofs -dsimp only [go_sem, seval, *]; done) | omega))); (focus (first | trivial | with_reducible exact rfl | (simp (maxDischargeDepth := 9) -implicitDefEqProofs -dsimp only [go_sem, seval]; done)))))
    refine fin_eq ?_
    (repeat' (first | simp (maxDischargeDepth := 9) -implicitDefEqProofs -dsimp only [go_sem, seval, *])) <;> (repeat' refine And.intro ?_ ?_) <;> (first | omega | rfl | assumption | skip)
  have hm2 : ¬ (65536 : Int) < (nodes e : Nat) := by omega
  by_cases hm3 : 64 < deep e
  · rw [k2 hbad (.inr hm3), encE_zero]
    have hm4 : (64 : Int) < (deep e : Nat) := by omega
    clear k1 k2 k3 c5 hbad
    repeat' (first | simp (maxDischargeDepth := 9) -implicitDefEqProofs -dsimp only [go_sem, seval, gt_iff_lt, *] | ((with_reducible refine Zt (fun oF hoF hnF hnF' => ?_)); (try simp only [upd_none, ne_eq, not_and] at hoF)) | ((with_reducible apply ACalls.one1); (focus ((first | with_reducible refine c1 _ | with_reducible refine c2 _ | with_reducible refine c3 _ | with_reducible refine c4 _ | with_reducible refine ACalls.flA (c1 _) ?_ | with_reducible refine ACalls.flA (c2 _) ?_ | with_reducible refine ACalls.flA (c3 _) ?_ | with_reducible refine ACalls.flA (c4 _) ?_) <;> (first | (simp (maxDischargeDepth := 9) -implicitDefEqProofs -dsimp only [go_sem, seval, *]; done) | omega))); (focus (first | trivial | with_reducible exact rfl | (simp (maxDischargeDepth := 9) -implicitDefEqProofs -dsimp only [go_sem, seval]; done)))))
    refine fin_eq ?_
    (repeat' (first | simp (maxDischargeDepth := 9) -implicitDefEqProofs -dsimp only [go_sem, seval, *])) <;> (repeat' refine And.intro ?_ ?_) <;> (first | omega | rfl | assumption | skip)
  · rw [k3 hbad (by omega)]
    have hm4 : ¬ (64 : Int) < (deep e : Nat) := by omega
    replace c5 := fun τ => c5 (hso rfl) rfl τ (by omega)
    obtain ⟨⟨x, f⟩, hxf⟩ : ∃ R, size e w = R := ⟨_, rfl⟩
    rw [hxf] at c5 ⊢
    clear k1 k2 k3 hbad hxf
    repeat' (first | simp (maxDischargeDepth := 9) -implicitDefEqProofs -dsimp only [go_sem, seval, gt_iff_lt, *] | ((with_reducible refine Zt (fun oF hoF hnF hnF' => ?_)); (try simp only [upd_none, ne_eq, not_and] at hoF)) | ((with_reducible apply ACalls.one1); (focus ((first | with_reducible refine c1 _ | with_reducible refine c2 _ | with_reducible refine c3 _ | with_reducible refine c4 _ | with_reducible refine c5 _ | with_reducible refine ACalls.flA (c1 _) ?_ | with_reducible refine ACalls.flA (c2 _) ?_ | with_reducible refine ACalls.flA (c3 _) ?_ | with_reducible refine ACalls.flA (c4 _) ?_ | with_reducible refine ACalls.flA (c5 _) ?_) <;> (first | (simp (maxDischargeDepth := 9) -implicitDefEqProofs -dsimp only [go_sem, seval, *]; done) | omega))); (focus (first | trivial | with_reducible exact rfl | (simp (maxDischargeDepth := 9) -implicitDefEqProofs -dsimp only [go_sem, seval]; done)))))
    refine fin_eq ?_
    (repeat' (first | simp (maxDischargeDepth := 9) -implicitDefEqProofs -dsimp only [go_sem, seval, *])) <;> (repeat' refine And.intro ?_ ?_) <;> (first | omega | rfl | assumption | skip)
open Classical in
theorem rf_CheckE (d : Flat) (e : E) (σ : Sig) (hd : d.sigs.length ≤ 1000000000000) (he : nodes e ≤ 16777216) (hw : WfE e) : ACalls Try.prog 20 [encD d, encE e] σ (fun r σ' => r = .ret (.int .i64 (checkE d e)) ∧ σ' = σ) := by
  have h1 := encEs_eq e
  have c1 := fun τ => rf_Expr d e e.w τ hd he hw
  have hn := exprD_nodes d e e.w
  have hc : checkE d e = if (exprD d e e.w).2 = 0 ∧ (e.w = 0 ∨ ¬ (exprD d e e.w).1 = e) then 90 else (exprD d e e.w).2 := rfl
  obtain ⟨⟨x, f⟩, hR⟩ : ∃ R, exprD d e e.w = R := ⟨_, rfl⟩
  rw [hR] at c1 hn hc
  simp only at c1 hn hc
  have c2 := fun τ => rf_SameE x e τ (by omega) he
  refine calls_x mixed Try.func20 b20 n20 rfl q20 (by simp) ?_; unfold c20 r20
  obtain ⟨C, hC⟩ : ∃ C, checkE d e = C := ⟨_, rfl⟩
  rw [hC] at hc ⊢
  obtain ⟨s, hs⟩ : ∃ s, same x e = s := ⟨_, rfl⟩
  rw [hs] at c2
  clear hR hC hw he hn
  by_cases hf : f = 0
  · by_cases he : e.w = 0
    · rw [if_pos ⟨hf, .inl he⟩] at hc
      clear hs
      repeat' (first | simp (maxDischargeDepth := 9) -implicitDefEqProofs -dsimp only [go_sem, seval, *] | ((with_reducible refine Zt (fun oF hoF hnF hnF' => ?_)); (try simp only [upd_none, ne_eq, not_and] at hoF)) | ((with_reducible apply ACalls.one1); (focus ((first | with_reducible refine c1 _ | with_reducible refine ACalls.flA (c1 _) ?_) <;> (first | (simp (maxDischargeDepth := 9) -implicitDefEqProofs -dsimp only [go_sem, seval, *]; done) | omega))); (focus (first | trivial | with_reducible exact rfl | (simp (maxDischargeDepth := 9) -implicitDefEqProofs -dsimp only [go_sem, seval]; done)))))
      refine fin_eq ?_
      (repeat' (first | simp (maxDischargeDepth := 9) -implicitDefEqProofs -dsimp only [go_sem, seval, *])) <;> (repeat' refine And.intro ?_ ?_) <;> (first | omega | rfl | assumption | skip)
    · have hb : (e.w == 0) = false := by simpa using he
      cases s
      · rw [if_pos ⟨hf, .inr (same_false.1 hs)⟩] at hc
        clear hs he
        repeat' (first | simp (maxDischargeDepth := 9) -implicitDefEqProofs -dsimp only [go_sem, seval, *] | ((with_reducible refine Zt (fun oF hoF hnF hnF' => ?_)); (try simp only [upd_none, ne_eq, not_and] at hoF)) | ((with_reducible apply ACalls.one1); (focus ((first | with_reducible refine c1 _ | with_reducible refine c2 _ | with_reducible refine ACalls.flA (c1 _) ?_ | with_reducible refine ACalls.flA (c2 _) ?_) <;> (first | (simp (maxDischargeDepth := 9) -implicitDefEqProofs -dsimp only [go_sem, seval, *]; done) | omega))); (focus (first | trivial | with_reducible exact rfl | (simp (maxDischargeDepth := 9) -implicitDefEqProofs -dsimp only [go_sem, seval]; done)))))
        refine fin_eq ?_
        (repeat' (first | simp (maxDischargeDepth := 9) -implicitDefEqProofs -dsimp only [go_sem, seval, *])) <;> (repeat' refine And.intro ?_ ?_) <;> (first | omega | rfl | assumption | skip)
      · rw [if_neg (fun h => by rcases h.2 with q | q; exact he q; exact q (same_iff.1 hs))] at hc
        clear hs he
        repeat' (first | simp (maxDischargeDepth := 9) -implicitDefEqProofs -dsimp only [go_sem, seval, *] | ((with_reducible refine Zt (fun oF hoF hnF hnF' => ?_)); (try simp only [upd_none, ne_eq, not_and] at hoF)) | ((with_reducible apply ACalls.one1); (focus ((first | with_reducible refine c1 _ | with_reducible refine c2 _ | with_reducible refine ACalls.flA (c1 _) ?_ | with_reducible refine ACalls.flA (c2 _) ?_) <;> (first | (simp (maxDischargeDepth := 9) -implicitDefEqProofs -dsimp only [go_sem, seval, *]; done) | omega))); (focus (first | trivial | with_reducible exact rfl | (simp (maxDischargeDepth := 9) -implicitDefEqProofs -dsimp only [go_sem, seval]; done)))))
        refine fin_eq ?_
        (repeat' (first | simp (maxDischargeDepth := 9) -implicitDefEqProofs -dsimp only [go_sem, seval, *])) <;> (repeat' refine And.intro ?_ ?_) <;> (first | omega | rfl | assumption | skip)
  · have hb : (f != 0) = true := by simpa using hf
    rw [if_neg (fun h => hf h.1)] at hc
    clear hs hf
    repeat' (first | simp (maxDischargeDepth := 9) -implicitDefEqProofs -dsimp only [go_sem, seval, *] | ((with_reducible refine Zt (fun oF hoF hnF hnF' => ?_)); (try simp only [upd_none, ne_eq, not_and] at hoF)) | ((with_reducible apply ACalls.one1); (focus ((first | with_reducible refine c1 _ | with_reducible refine c2 _ | with_reducible refine ACalls.flA (c1 _) ?_ | with_reducible refine ACalls.flA (c2 _) ?_) <;> (first | (simp (maxDischargeDepth := 9) -implicitDefEqProofs -dsimp only [go_sem, seval, *]; done) | omega))); (focus (first | trivial | with_reducible exact rfl | (simp (maxDischargeDepth := 9) -implicitDefEqProofs -dsimp only [go_sem, seval]; done)))))
    refine fin_eq ?_
    (repeat' (first | simp (maxDischargeDepth := 9) -implicitDefEqProofs -dsimp only [go_sem, seval, *])) <;> (repeat' refine And.intro ?_ ?_) <;> (first | omega | rfl | assumption | skip)
end Go.Proofs.Ytdiebjnjhgbklaa

