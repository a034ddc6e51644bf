/- Plain laws: what is told is sized; numbers. -/
import Derived.Test.YtdiebjnjhgbklaaOSizSizL
set_option linter.unusedSimpArgs false
set_option linter.unusedVariables false
namespace Fil.Sz
open Abs
structure Ok (g : List Sg) (e : E) (w : Int) (x : E) : Prop where
  set : x = e.set (wide e w) x.l
  len : x.l.length = e.l.length
  own : own x = wide e w
  pos : 1 ≤ wide e w
  few : 0 < Sz.own e → wide e w ≤ 64
  shp : w ≤ 64 → wide e w ≤ 64 ∧ shp g x = true
  nodes : nodes x = nodes e
  deep : deep x = deep e
  again : ∀ w', ¬ (w' = -1 ∧ 1 < Sz.own x) → wide x w' = wide e w → size x w' = (x, 0)
theorem Ok.wd {g : List Sg} {e : E} {w : Int} {x : E} (h : Ok g e w x) : x.w = wide e w := by rw [h.set]; rfl
theorem Ok.op {g : List Sg} {e : E} {w : Int} {x : E} (h : Ok g e w x) : x.op = e.op := by rw [h.set]; rfl
theorem Ok.n {g : List Sg} {e : E} {w : Int} {x : E} (h : Ok g e w x) : x.n = e.n := by rw [h.set]; rfl
theorem Ok.wide_eq {g : List Sg} {e : E} {w : Int} {x : E} (h : Ok g e w x) : wide x w = wide e w := by
  by_cases h1 : w = -1
  · subst h1; rw [wide_bit, wide_bit]
  · by_cases h2 : w = 0
    · subst h2
      have h3 := h.own
      have h4 := h.pos
      rw [wide_zero x, told, if_neg (by omega), h3]
    · rw [wide_of h2 h1, wide_of h2 h1]
theorem Ok.same {g : List Sg} {e : E} {w : Int} {x : E} (h : Ok g e w x) : size x w = (x, 0) := by
  refine h.again w (fun ⟨h1, h2⟩ => ?_) h.wide_eq
  subst h1
  rw [h.own, wide_bit] at h2
  omega
theorem set_l (e : E) (w : Int) (l : List E) : (e.set w l).l = l := rfl
theorem set_op (e : E) (w : Int) (l : List E) : (e.set w l).op = e.op := rfl
theorem set_w (e : E) (w : Int) (l : List E) : (e.set w l).w = w := rfl
theorem set_n (e : E) (w : Int) (l : List E) : (e.set w l).n = e.n := rfl
theorem set_hi (e : E) (w : Int) (l : List E) : (e.set w l).hi = e.hi := rfl
theorem set_lo (e : E) (w : Int) (l : List E) : (e.set w l).lo = e.lo := rfl
theorem set_v (e : E) (w : Int) (l : List E) : (e.set w l).v = e.v := rfl
theorem set_sig (e : E) (w : Int) (l : List E) : (e.set w l).sig = e.sig := rfl
theorem set_set (e : E) (w v : Int) (l m : List E) : (e.set w l).set v m = e.set v m := rfl
theorem node_set {g : List Sg} {e : E} (h : node g e = true) {w : Int} {l : List E} (hl : l.length = e.l.length) (hw : 1 ≤ w ∧ w ≤ 64) (h1 : e.op = 1 → holds w e.v = true) : node g (e.set w l) = true := by
  unfold node at h ⊢
  simp only [set_op, set_w, set_n, set_hi, set_lo, set_v, set_sig, set_l, hl]
  split at h
  · rename_i ho
    simp only [Bool.and_eq_true, decide_eq_true_eq] at h
    rw [if_pos ho]
    simp only [Bool.and_eq_true, decide_eq_true_eq, Bool.or_eq_true]
    exact ⟨⟨h.1.1, h.1.2.1, h.1.2.2.1, h.1.2.2.2.1, h.1.2.2.2.2.1, by omega, by omega⟩, .inr (h1 ho)⟩
  rename_i q1
  rw [if_neg q1]
  split at h
  · rename_i ho; rw [if_pos ho]; exact h
  rename_i q2
  rw [if_neg q2]
  split at h
  · rename_i ho; rw [if_pos ho]; exact h
  rename_i q3
  rw [if_neg q3]
  split at h
  · rename_i ho; rw [if_pos ho]; exact h
  rename_i q4
  rw [if_neg q4]
  split at h
  · rename_i ho; rw [if_pos ho]; exact h
  rename_i q5
  rw [if_neg q5]
  split at h
  · rename_i ho; rw [if_pos ho]; exact h
  rename_i q6
  rw [if_neg q6]
  split at h
  · rename_i ho; rw [if_pos ho]; exact h
  rename_i q7
  rw [if_neg q7]
  split at h
  · rename_i ho
    rw [if_pos ho]
    simp only [decide_eq_true_eq] at h ⊢
    exact ⟨h.1, h.2.1, h.2.2.1, h.2.2.2.1, h.2.2.2.2.1, h.2.2.2.2.2.1, h.2.2.2.2.2.2.1, hw.1, hw.2⟩
  · simp at h
theorem map_eq_of {α β γ : Type} {f : α → γ} {h : β → γ} : ∀ {l : List α} {m : List β}, l.length = m.length → (∀ i, (h1 : i < l.length) → (h2 : i < m.length) → f l[i] = h m[i]) → l.map f = m.map h
  | [], [], _, _ => rfl
  | a :: l, b :: m, hl, hh => by
    have h0 := hh 0 (by simp) (by simp)
    simp only [List.getElem_cons_zero] at h0
    rw [List.map_cons, List.map_cons, h0, map_eq_of (l := l) (m := m) (by simpa using hl) fun i h1 h2 => by
      have := hh (i + 1) (by simpa using h1) (by simpa using h2)
      simpa using this]
theorem cat_own {l : List Int} (h : cat0 l ≠ 0) : ∀ a ∈ l, a ≠ 0 := fun a ha e => h (by unfold cat0; rw [if_pos (e ▸ ha)])
def Pts (g : List Sg) (e : E) (ws : List Int) (xs : List E) : Prop := ∀ i, (h1 : i < e.l.length) → (h2 : i < ws.length) → (h3 : i < xs.length) → Ok g e.l[i] ws[i] xs[i]
theorem rep_get {α : Type} {n i : Nat} {a : α} (h : i < (List.replicate n a).length) : (List.replicate n a)[i] = a := by simp
theorem own_parts {g : List Sg} (hg : SgOk g) {e : E} (hs : shp g e = true) {W : Int} (hW : 1 ≤ W) {ws : List Int} {xs : List E} (hw : Wt e W ws) (hl : xs.length = e.l.length) (hp : Pts g e ws xs) (he : e.op = 1 → own e = W) : own (e.set W xs) = W := by
  have hwl := wt_len hs hw
  have hon : ∀ x ∈ e.l, 0 ≤ own x := fun x hx => own_nonneg hg x (shp_part hs hx)
  cases shp_nd hs with
  | num ho => rw [own1 (by exact ho)]; rfl
  | ext ho => rw [own8 (by exact ho)]; rfl
  | sig ho =>
    rw [own2 (by exact ho)]
    cases hw <;> first | omega | skip
    rename_i h1 h2
    rw [own2 ho] at h2; exact h2
  | idx ho =>
    rw [own3 (by exact ho)]
    cases hw <;> first | omega | skip
    rename_i h1 h2
    rw [own3 ho] at h2; exact h2
  | cat ho =>
    rw [own7 (by exact ho), set_l]
    cases hw <;> first | omega | skip
    rename_i h1 h2 h3 h4
    rw [own7 ho] at h2 h3
    have : xs.map own = e.l.map own := map_eq_of hl fun i q1 q2 => by
      have ok := hp i q2 (by simpa using q2) q1
      have h5 := ok.own
      rw [rep_get, wide_zero, told, if_neg (cat_own h2 _ (List.mem_map_of_mem (List.getElem_mem q2)))] at h5
      exact h5
    rw [this]; exact h3
  | cond ho _ _ _ _ _ a b c h6 =>
    rw [own6 (by exact ho), set_l]
    cases hw <;> first | omega | skip
    obtain ⟨x, y, z, rfl⟩ := len3 (show xs.length = 3 by rw [hl, h6]; rfl)
    have ok := hp 1 (by rw [h6]; simp) (by simp) (by simp)
    have h5 := ok.own
    simp only [List.getElem_cons_succ, List.getElem_cons_zero] at h5
    rw [wide_of (by omega) (by omega)] at h5
    simp [fst0, h5]; omega
  | un ho _ _ _ _ a h6 h7 h8 =>
    rw [own4 (by exact ho), set_n, set_l]
    obtain ⟨x, rfl⟩ := len1 (show xs.length = 1 by rw [hl, h6]; rfl)
    by_cases hn : e.n ≤ 2
    · rw [if_pos hn]
      cases hw <;> first | omega | skip
      have ok := hp 0 (by rw [h6]; simp) (by simp [h6]) (by simp)
      have h5 := ok.own
      rw [rep_get, wide_of (by omega) (by omega)] at h5
      simpa using h5
    · rw [if_neg hn]
      cases hw <;> omega
  | bin ho _ _ _ _ a b h6 h7 h8 =>
    rw [own5 (by exact ho), set_n, set_l]
    obtain ⟨x, y, rfl⟩ := len2 (show xs.length = 2 by rw [hl, h6]; rfl)
    by_cases hn : e.n ≤ 16
    · rw [if_pos hn]
      cases hw <;> first | omega | skip
      have ok := hp 0 (by rw [h6]; simp) (by simp [h6]) (by simp)
      have h5 := ok.own
      rw [rep_get, wide_of (by omega) (by omega)] at h5
      simp only [List.getElem_cons_zero] at h5
      simp [fst0, h5]; omega
    · rw [if_neg hn]
      by_cases hn2 : e.n ≤ 18
      · rw [if_pos hn2]
        cases hw <;> first | omega | skip
        have ok := hp 0 (by rw [h6]; simp) (by simp) (by simp)
        have h5 := ok.own
        simp only [List.getElem_cons_zero] at h5
        rw [wide_of (by omega) (by omega)] at h5
        simpa using h5
      · rw [if_neg hn2]
        cases hw <;> omega
theorem few_parts {g : List Sg} (hg : SgOk g) {e : E} (hs : shp g e = true) {W : Int} (hW : 1 ≤ W) {ws : List Int} {xs : List E} (hw : Wt e W ws) (hl : xs.length = e.l.length) (hp : Pts g e ws xs) (h0 : 0 < own e) : W ≤ 64 := by
  have hwl := wt_len hs hw
  have hon : ∀ x ∈ e.l, 0 ≤ own x := fun x hx => own_nonneg hg x (shp_part hs hx)
  cases shp_nd hs with
  | num ho _ _ _ _ _ _ h7 =>
    cases hw <;> first | omega | skip
    rename_i h1 h2
    rw [own1 ho] at h2; omega
  | ext ho _ _ _ _ _ _ _ _ _ h9 =>
    cases hw <;> first | omega | skip
    rename_i h1 h2
    rw [own8 ho] at h2; omega
  | sig ho _ _ _ h6 =>
    cases hw <;> first | omega | skip
    rename_i h1 h2
    have := place_bits hg h6
    rw [own2 ho] at h2; omega
  | idx ho =>
    cases hw <;> first | omega | skip
    rename_i h1 h2
    rw [own3 ho] at h2; omega
  | cat ho =>
    cases hw <;> first | omega | skip
  | cond ho _ _ _ _ _ a b c h6 =>
    rw [own6 ho] at h0
    cases hw <;> first | omega | skip
    have ok1 := hp 1 (by rw [h6]; simp) (by simp) (by rw [hl, h6]; simp)
    have ok2 := hp 2 (by rw [h6]; simp) (by simp) (by rw [hl, h6]; simp)
    have f1 := ok1.few
    have f2 := ok2.few
    simp only [List.getElem_cons_succ, List.getElem_cons_zero] at f1 f2
    rw [wide_of (by omega) (by omega)] at f1 f2
    have g1 := hon b (by rw [h6]; simp)
    have g2 := hon c (by rw [h6]; simp)
    simp only [h6, List.getElem_cons_succ, List.getElem_cons_zero] at f1 f2
    simp only [h6, List.map_cons, List.map_nil, List.drop_succ_cons, List.drop_zero, fst0] at h0
    by_cases q : own b = 0
    · rw [if_pos q] at h0
      by_cases q2 : own c = 0
      · rw [if_pos q2] at h0; omega
      · exact f2 (by omega)
    · exact f1 (by omega)
  | un ho _ _ _ _ a h6 h7 h8 =>
    rw [own4 ho] at h0
    by_cases hn : e.n ≤ 2
    · rw [if_pos hn] at h0
      cases hw <;> first | omega | skip
      have ok := hp 0 (by rw [h6]; simp) (by simp [h6]) (by rw [hl, h6]; simp)
      have f1 := ok.few
      rw [rep_get, wide_of (by omega) (by omega)] at f1
      simp only [h6, List.getElem_cons_zero] at f1
      simp only [h6, List.map_cons, List.headD_cons] at h0
      exact f1 h0
    · cases hw <;> omega
  | bin ho _ _ _ _ a b h6 h7 h8 =>
    rw [own5 ho] at h0
    by_cases hn : e.n ≤ 16
    · rw [if_pos hn] at h0
      cases hw <;> first | omega | skip
      have ok1 := hp 0 (by rw [h6]; simp) (by simp [h6]) (by rw [hl, h6]; simp)
      have ok2 := hp 1 (by rw [h6]; simp) (by simp [h6]) (by rw [hl, h6]; simp)
      have f1 := ok1.few
      have f2 := ok2.few
      rw [rep_get, wide_of (by omega) (by omega)] at f1 f2
      have g1 := hon a (by rw [h6]; simp)
      have g2 := hon b (by rw [h6]; simp)
      simp only [h6, List.getElem_cons_succ, List.getElem_cons_zero] at f1 f2
      simp only [h6, List.map_cons, List.map_nil, fst0] at h0
      by_cases q : own a = 0
      · rw [if_pos q] at h0
        by_cases q2 : own b = 0
        · rw [if_pos q2] at h0; omega
        · exact f2 (by omega)
      · exact f1 (by omega)
    · rw [if_neg hn] at h0
      by_cases hn2 : e.n ≤ 18
      · rw [if_pos hn2] at h0
        cases hw <;> first | omega | skip
        have ok := hp 0 (by rw [h6]; simp) (by simp) (by rw [hl, h6]; simp)
        have f1 := ok.few
        simp only [List.getElem_cons_zero] at f1
        rw [wide_of (by omega) (by omega)] at f1
        simp only [h6, List.getElem_cons_zero] at f1
        simp only [h6, List.map_cons, List.headD_cons] at h0
        exact f1 h0
      · cases hw <;> omega
theorem cmp_op {g : List Sg} {e : E} (hs : shp g e = true) (ho : e.op = 4 ∨ e.op = 5) (hn : 19 ≤ e.n) : ∃ a b, e.l = [a, b] := by
  cases shp_nd hs <;> first | omega | exact ⟨_, _, by assumption⟩
theorem wt_few {g : List Sg} (hg : SgOk g) {e : E} (hs : shp g e = true) {W : Int} (hW : 1 ≤ W) (hW2 : W ≤ 64) {ws : List Int} {xs : List E} (hw : Wt e W ws) (hl : xs.length = e.l.length) (hp : Pts g e ws xs) : ∀ v ∈ ws, v ≤ 64 := by
  intro v hv
  cases hw with
  | cond ho => simp at hv; omega
  | sh ho hn => simp at hv; omega
  | cmp ho hn hn2 h =>
    have hv := (List.mem_replicate.1 hv).2
    obtain ⟨a, b, h6⟩ := cmp_op hs ho hn
    by_cases hf : fst0 (e.l.map own) = 0
    · rw [hf] at hv; simp [told] at hv; omega
    · rw [told, if_neg hf] at hv
      have ok1 := hp 0 (by rw [h6]; simp) (by simp [h6]) (by rw [hl, h6]; simp)
      have ok2 := hp 1 (by rw [h6]; simp) (by simp [h6]) (by rw [hl, h6]; simp)
      have f1 := ok1.few
      have f2 := ok2.few
      have g1 := own_nonneg hg a (shp_part hs (by rw [h6]; simp))
      have g2 := own_nonneg hg b (shp_part hs (by rw [h6]; simp))
      rw [rep_get, told, if_neg hf, ← hv] at f1 f2
      simp only [h6, List.getElem_cons_succ, List.getElem_cons_zero] at f1 f2
      simp only [h6, List.map_cons, List.map_nil, fst0] at hf hv
      by_cases q : own a = 0
      · rw [if_pos q] at hf hv
        by_cases q2 : own b = 0
        · rw [if_pos q2] at hf; omega
        · rw [if_neg q2] at hv
          rw [wide_of (by omega) (by omega)] at f2
          exact f2 (by omega)
      · rw [if_neg q] at hv
        rw [wide_of (by omega) (by omega)] at f1
        exact f1 (by omega)
  | _ => have := (List.mem_replicate.1 hv).2; omega
theorem wt_set {g : List Sg} (hg : SgOk g) {e : E} (hs : shp g e = true) {W : Int} (hW : 1 ≤ W) {ws : List Int} {xs : List E} (hw : Wt e W ws) (hl : xs.length = e.l.length) (hp : Pts g e ws xs) (hown : own (e.set W xs) = W) : Wt (e.set W xs) W ws := by
  cases hw with
  | leaf ho h => 
    rw [← hl]; exact .leaf (e := e.set W xs) ho hown
  | cat ho h1 h2 h3 =>
    rw [← hl]; exact .cat (e := e.set W xs) ho (by omega) hown (by omega)
  | cond ho => exact .cond (e := e.set W xs) ho
  | bits ho hn h => rw [← hl]; exact .bits (e := e.set W xs) ho hn h
  | all ho hn h => rw [← hl]; exact .all (e := e.set W xs) ho hn h
  | cmp ho hn hn2 h =>
    have hk : told (fst0 (xs.map own)) 32 = told (fst0 (e.l.map own)) 32 := by
      obtain ⟨a, b, h6⟩ := cmp_op hs ho hn
      have hf0 : 0 ≤ fst0 (e.l.map own) := fst0_nonneg fun a ha => by
        obtain ⟨x, hx, rfl⟩ := List.mem_map.1 ha
        exact own_nonneg hg x (shp_part hs hx)
      obtain ⟨K, hK⟩ : ∃ K, told (fst0 (e.l.map own)) 32 = K := ⟨_, rfl⟩
      have hK1 : 1 ≤ K := by rw [← hK]; unfold told; split <;> omega
      rw [hK] at hp ⊢
      obtain ⟨x, y, rfl⟩ := len2 (show xs.length = 2 by rw [hl, h6]; rfl)
      have ok := hp 0 (by rw [h6]; simp) (by simp [h6]) (by simp)
      have h5 := ok.own
      rw [rep_get, wide_of (by omega) (by omega)] at h5
      simp only [List.getElem_cons_zero] at h5
      have hf : fst0 ([x, y].map own) = K := by simp [fst0, h5]; omega
      rw [hf, told, if_neg (by omega)]
    have := Wt.cmp (e := e.set W xs) (w := W) ho hn hn2 h
    rw [set_l, hl, hk] at this
    exact this
  | sh ho hn => exact .sh (e := e.set W xs) ho hn
  | ari ho hn hn2 hn3 hn4 => 
    have := Wt.ari (e := e.set W xs) (w := W) ho hn hn2 hn3 hn4
    rw [set_l, hl] at this
    exact this
theorem size_main {g : List Sg} (hg : SgOk g) (e : E) : ∀ (w : Int) (x : E), shp g e = true → -1 ≤ w → size e w = (x, 0) → Ok g e w x := by
  refine E.ind (P := fun e => ∀ (w : Int) (x : E), shp g e = true → -1 ≤ w → size e w = (x, 0) → Ok g e w x) (fun e ih w x hs h0 h => ?_) e
  obtain ⟨hbit, hc⟩ := size_ok h
  have hon := own_nonneg hg e hs
  have hpos := wide_pos hon h0
  obtain ⟨W, hW⟩ : ∃ W, wide e w = W := ⟨_, rfl⟩
  rw [hW] at hpos hc
  -- all but the node itself
  have key : ∀ (ws : List Int) (xs : List E), x = e.set W xs → xs.length = e.l.length → Pts g e ws xs → own x = W → (0 < own e → W ≤ 64) → (∀ v ∈ ws, W ≤ 64 → v ≤ 64) → ws.length = e.l.length →
      (e.op = 1 → holds W e.v = true) → Wt x W ws → ¬ (e.op = 8 ∧ (e.n = 33 ∧ part0 xs < W ∨ e.n ≠ 33 ∧ W < part0 xs)) → Ok g e w x := fun ws xs hx hl hp hown hfew hws hwl hh hwt hbad => by
    have hxl : x.l = xs := by rw [hx]; rfl
    refine ⟨by rw [hxl, hW]; exact hx, by rw [hxl]; exact hl, by rw [hW]; exact hown, by rw [hW]; exact hpos, fun h => by rw [hW]; exact hfew h, fun h64 => ?_, ?_, ?_, fun w' h1 h2 => ?_⟩
    · have hW64 : W ≤ 64 := by
        by_cases q : w = -1
        · rw [← hW, q, wide_bit]; omega
        · by_cases q2 : w = 0
          · by_cases q3 : own e = 0
            · rw [← hW, q2, wide_zero, q3]; simp [told]
            · exact hfew (by omega)
          · rw [← hW, wide_of q2 q]; exact h64
      rw [hW]
      refine ⟨hW64, ?_⟩
      rw [shp_eq, Bool.and_eq_true]
      refine ⟨by rw [hx]; exact node_set (by rw [shp_eq, Bool.and_eq_true] at hs; exact hs.1) hl ⟨hpos, hW64⟩ hh, ?_⟩
      rw [List.all_eq_true]
      intro y hy
      rw [hxl] at hy
      obtain ⟨i, hi, rfl⟩ := List.getElem_of_mem hy
      have ok := hp i (by omega) (by omega) hi
      exact (ok.shp (hws _ (List.getElem_mem (by omega)) hW64)).2
    · rw [nodes_eq x, nodes_eq e, hxl]
      rw [map_eq_of hl fun i q1 q2 => (hp i q2 (by omega) q1).nodes]
    · rw [deep_eq x, deep_eq e, hxl]
      rw [map_eq_of hl fun i q1 q2 => (hp i q2 (by omega) q1).deep]
    · rw [hW] at h2
      have hr : runL (x.l.map size) ws = (xs, 0) := by
        rw [hxl]
        exact runL_of xs ws xs (by omega) rfl fun i q1 q2 q3 => (hp i (by omega) q2 q1).same
      have := size_of (e := x) (w := w') h1 (by rw [hx, set_w]; omega) (by rw [h2]; exact wt_wants hwt) hr (by rw [h2, hx, set_op, set_n]; exact hbad)
      rw [this, h2, hx, set_set]
  rcases hc with ⟨ho, hw0, hh, hx⟩ | ⟨hnum, ws, hws, hr, hbad, hx⟩
  · cases shp_nd hs <;> first | omega | skip
    rename_i q1 q2 q3 q4 q5 q6 q7 q8 q9
    have hx' : x = e.set W [] := by rw [hx]; unfold E.set; rw [ho, q2, q3, q4, q5]
    have hown : own x = W := by rw [hx', own1 (by exact ho)]; rfl
    have ho1 : own e = e.w := own1 ho
    have hwt : Wt x W [] := by
      have := Wt.leaf (e := x) (w := W) (.inl (by rw [hx']; exact ho)) hown
      rw [hx', set_l] at this
      rw [hx']; exact this
    exact key [] [] hx' (by rw [q6]) (fun i h => by rw [q6] at h; simp at h) hown (fun h => by omega) (fun v hv => by simp at hv) (by simp [q6]) (fun _ => hh) hwt (fun h => by omega)
  · have hwt := wants_wt hs hws
    have hwl := wt_len hs hwt
    obtain ⟨hl, hget⟩ := runL_ok e.l ws hwl.symm hr
    have hge := wt_ge hg hs hpos hwt
    obtain ⟨X, hX⟩ : ∃ X, (runL (e.l.map size) ws).1 = X := ⟨_, rfl⟩
    have hp : Pts g e ws X := fun i h1 h2 h3 => by
      refine ih _ (List.getElem_mem h1) _ _ (shp_part hs (List.getElem_mem h1)) (hge _ (List.getElem_mem h2)) ?_
      rw [hget i h1 h2]
      simp only [hX]
    rw [hX] at hbad hx hl
    have h1w : e.op = 1 → own e = W := fun ho => by
      cases hwt <;> omega
    have hown := own_parts hg hs hpos hwt hl hp h1w
    have hh : e.op = 1 → holds W e.v = true := fun ho => by
      cases shp_nd hs <;> first | omega | skip
      rename_i q1 q2 q3 q4 q5 q6 q7 q8 q9
      have := h1w ho
      rw [own1 ho] at this
      rcases q9 with q | q
      · exact (hnum ⟨ho, q⟩).elim
      · rw [← this]; exact q
    exact key ws X hx hl hp (by rw [hx]; exact hown) (few_parts hg hs hpos hwt hl hp) (fun v hv h64 => wt_few hg hs hpos h64 hwt hl hp v hv) hwl hh (by rw [hx]; exact wt_set hg hs hpos hwt hl hp hown) hbad
end Fil.Sz

namespace Go.Proofs.Ytdiebjnjhgbklaa
open Abs Fil Fil.Sz
theorem exprD_bad {d : Flat} {e : E} {w : Int} (h : sigsOk d.sigs = false ∨ w < 0 ∨ 64 < w ∨ shp d.sigs e = false) : exprD d e w = (zE, 1) := by unfold exprD; rw [if_pos h]
theorem exprD_much {d : Flat} {e : E} {w : Int} (h : ¬ (sigsOk d.sigs = false ∨ w < 0 ∨ 64 < w ∨ shp d.sigs e = false)) (h2 : 65536 < nodes e ∨ 64 < deep e) : exprD d e w = (zE, 2) := by unfold exprD; rw [if_neg h, if_pos h2]
theorem exprD_ok {d : Flat} {e : E} {w : Int} (h : ¬ (sigsOk d.sigs = false ∨ w < 0 ∨ 64 < w ∨ shp d.sigs e = false)) (h2 : ¬ (65536 < nodes e ∨ 64 < deep e)) : exprD d e w = size e w := by unfold exprD; rw [if_neg h, if_neg h2]
theorem sz_Expr (d : Flat) (e : E) (w : Int) (σ : Sig) (hd : d.sigs.length ≤ 1000000000000) (he : nodes e ≤ 16777216) (hw : WfE e) : ACalls Try.prog 16 [encD d, encE e, .int .i64 w] σ (fun r σ' => r = .ret (.tup [encE (exprD d e w).1, .int .i64 (exprD d e w).2]) ∧ σ' = σ) := by
  have h1 := encEs_eq e
  have c1 := fun τ => sz_signals d.sigs τ hd
  have c2 := fun τ => sz_shape d.sigs hd e τ he hw
  have c3 := fun τ => sz_countE e τ he
  have c4 := fun τ => sz_cfits (nodes e) (deep e) τ
  have c5 := fun (h : SgOk d.sigs) (h2 : shp d.sigs e = true) τ h0 => sz_size d.sigs h e w τ h2 he hw h0
  have hso := sigsOk_ok (l := d.sigs)
  have k1 := exprD_bad (d := d) (e := e) (w := w)
  have k2 := exprD_much (d := d) (e := e) (w := w)
  have k3 := exprD_ok (d := d) (e := e) (w := w)
  obtain ⟨R, hR⟩ : ∃ R, exprD d e w = R := ⟨_, rfl⟩
  rw [hR] at k1 k2 k3 ⊢
  clear hR
  refine calls_x mixed Try.func16 b16 n16 rfl q16 (by simp) ?_; unfold c16 r16
  obtain ⟨a, ha⟩ : ∃ a, sigsOk d.sigs = a := ⟨_, rfl⟩
  obtain ⟨b, hb⟩ : ∃ a, shp d.sigs e = a := ⟨_, rfl⟩
  rw [ha] at c1 k1 k2 k3 hso
  rw [hb] at c2 k1 k2 k3 c5
  clear ha hb
  cases a
  · rw [k1 (.inl rfl), encE_zero]
    clear k1 k2 k3 c5
    repeat' (first | simp (maxDischargeDepth := 9) -implicitDefEqProofs -dsimp only [go_sem, seval, *] | ((with_reducible refine Zt (fun oF hoF hnF hnF' => ?_)); (try simp only [upd_none, ne_eq, not_and] at hoF)) | ((with_reducible apply ACalls.one1); (focus ((first | with_reducible refine c1 _ | with_reducible refine ACalls.flA (c1 _) ?_) <;> (first | (simp (maxDischargeDepth := 9) -implicitDefEqProofs -dsimp only [go_sem, seval, *]; done) | omega))); (focus (first | trivial | with_reducible exact rfl | (simp (maxDischargeDepth := 9) -implicitDefEqProofs -dsimp only [go_sem, seval]; done)))))
    refine fin_eq ?_
    (repeat' (first | simp (maxDischargeDepth := 9) -implicitDefEqProofs -dsimp only [go_sem, seval, *])) <;> (repeat' refine And.intro ?_ ?_) <;> (first | omega | rfl | assumption | skip)
  by_cases w0 : w < 0
  · rw [k1 (.inr (.inl w0)), encE_zero]
    clear k1 k2 k3 c5
    repeat' (first | simp (maxDischargeDepth := 9) -implicitDefEqProofs -dsimp only [go_sem, seval, *] | ((with_reducible refine Zt (fun oF hoF hnF hnF' => ?_)); (try simp only [upd_none, ne_eq, not_and] at hoF)) | ((with_reducible apply ACalls.one1); (focus ((first | with_reducible refine c1 _ | with_reducible refine ACalls.flA (c1 _) ?_) <;> (first | (simp (maxDischargeDepth := 9) -implicitDefEqProofs -dsimp only [go_sem, seval, *]; done) | omega))); (focus (first | trivial | with_reducible exact rfl | (simp (maxDischargeDepth := 9) -implicitDefEqProofs -dsimp only [go_sem, seval]; done)))))
    refine fin_eq ?_
    (repeat' (first | simp (maxDischargeDepth := 9) -implicitDefEqProofs -dsimp only [go_sem, seval, *])) <;> (repeat' refine And.intro ?_ ?_) <;> (first | omega | rfl | assumption | skip)
  by_cases w1 : 64 < w
  · rw [k1 (.inr (.inr (.inl w1))), encE_zero]
    clear k1 k2 k3 c5
    repeat' (first | simp (maxDischargeDepth := 9) -implicitDefEqProofs -dsimp only [go_sem, seval, gt_iff_lt, *] | ((with_reducible refine Zt (fun oF hoF hnF hnF' => ?_)); (try simp only [upd_none, ne_eq, not_and] at hoF)) | ((with_reducible apply ACalls.one1); (focus ((first | with_reducible refine c1 _ | with_reducible refine ACalls.flA (c1 _) ?_) <;> (first | (simp (maxDischargeDepth := 9) -implicitDefEqProofs -dsimp only [go_sem, seval, *]; done) | omega))); (focus (first | trivial | with_reducible exact rfl | (simp (maxDischargeDepth := 9) -implicitDefEqProofs -dsimp only [go_sem, seval]; done)))))
    refine fin_eq ?_
    (repeat' (first | simp (maxDischargeDepth := 9) -implicitDefEqProofs -dsimp only [go_sem, seval, *])) <;> (repeat' refine And.intro ?_ ?_) <;> (first | omega | rfl | assumption | skip)
  cases b
  · rw [k1 (.inr (.inr (.inr rfl))), encE_zero]
    clear k1 k2 k3 c5
    repeat' (first | simp (maxDischargeDepth := 9) -implicitDefEqProofs -dsimp only [go_sem, seval, gt_iff_lt, *] | ((with_reducible refine Zt (fun oF hoF hnF hnF' => ?_)); (try simp only [upd_none, ne_eq, not_and] at hoF)) | ((with_reducible apply ACalls.one1); (focus ((first | with_reducible refine c1 _ | with_reducible refine c2 _ | with_reducible refine ACalls.flA (c1 _) ?_ | with_reducible refine ACalls.flA (c2 _) ?_) <;> (first | (simp (maxDischargeDepth := 9) -implicitDefEqProofs -dsimp only [go_sem, seval, *]; done) | omega))); (focus (first | trivial | with_reducible exact rfl | (simp (maxDischargeDepth := 9) -implicitDefEqProofs -dsimp only [go_sem, seval]; done)))))
    refine fin_eq ?_
    (repeat' (first | simp (maxDischargeDepth := 9) -implicitDefEqProofs -dsimp only [go_sem, seval, *])) <;> (repeat' refine And.intro ?_ ?_) <;> (first | omega | rfl | assumption | skip)
  have hbad : ¬ (true = false ∨ w < 0 ∨ 64 < w ∨ true = false) := by simp; omega
  by_cases hm : 65536 < nodes e ∨ 64 < deep e
  · rw [k2 hbad hm, encE_zero]
    have hf : (decide ((nodes e : Int) ≤ 65536) && decide ((deep e : Int) ≤ 64)) = false := by
      rw [Bool.and_eq_false_iff, decide_eq_false_iff_not, decide_eq_false_iff_not]; omega
    rw [hf] at c4
    clear k1 k2 k3 c5 hf hbad
    repeat' (first | simp (maxDischargeDepth := 9) -implicitDefEqProofs -dsimp only [go_sem, seval, gt_iff_lt, *] | ((with_reducible refine Zt (fun oF hoF hnF hnF' => ?_)); (try simp only [upd_none, ne_eq, not_and] at hoF)) | ((with_reducible apply ACalls.one1); (focus ((first | with_reducible refine c1 _ | with_reducible refine c2 _ | with_reducible refine c3 _ | with_reducible refine c4 _ | with_reducible refine ACalls.flA (c1 _) ?_ | with_reducible refine ACalls.flA (c2 _) ?_ | with_reducible refine ACalls.flA (c3 _) ?_ | with_reducible refine ACalls.flA (c4 _) ?_) <;> (first | (simp (maxDischargeDepth := 9) -implicitDefEqProofs -dsimp only [go_sem, seval, *]; done) | omega))); (focus (first | trivial | with_reducible exact rfl | (simp (maxDischargeDepth := 9) -implicitDefEqProofs -dsimp only [go_sem, seval]; done)))))
    refine fin_eq ?_
    (repeat' (first | simp (maxDischargeDepth := 9) -implicitDefEqProofs -dsimp only [go_sem, seval, *])) <;> (repeat' refine And.intro ?_ ?_) <;> (first | omega | rfl | assumption | skip)
  · rw [k3 hbad hm]
    have hf : (decide ((nodes e : Int) ≤ 65536) && decide ((deep e : Int) ≤ 64)) = true := by
      rw [Bool.and_eq_true, decide_eq_true_eq, decide_eq_true_eq]; omega
    rw [hf] at c4
    replace c5 := fun τ => c5 (hso rfl) rfl τ (by omega)
    obtain ⟨⟨x, f⟩, hxf⟩ : ∃ R, size e w = R := ⟨_, rfl⟩
    rw [hxf] at c5 ⊢
    clear k1 k2 k3 hf hbad hxf
    repeat' (first | simp (maxDischargeDepth := 9) -implicitDefEqProofs -dsimp only [go_sem, seval, gt_iff_lt, *] | ((with_reducible refine Zt (fun oF hoF hnF hnF' => ?_)); (try simp only [upd_none, ne_eq, not_and] at hoF)) | ((with_reducible apply ACalls.one1); (focus ((first | with_reducible refine c1 _ | with_reducible refine c2 _ | with_reducible refine c3 _ | with_reducible refine c4 _ | with_reducible refine c5 _ | with_reducible refine ACalls.flA (c1 _) ?_ | with_reducible refine ACalls.flA (c2 _) ?_ | with_reducible refine ACalls.flA (c3 _) ?_ | with_reducible refine ACalls.flA (c4 _) ?_ | with_reducible refine ACalls.flA (c5 _) ?_) <;> (first | (simp (maxDischargeDepth := 9) -implicitDefEqProofs -dsimp only [go_sem, seval, *]; done) | omega))); (focus (first | trivial | with_reducible exact rfl | (simp (maxDischargeDepth := 9) -implicitDefEqProofs -dsimp only [go_sem, seval]; done)))))
    refine fin_eq ?_
    (repeat' (first | simp (maxDischargeDepth := 9) -implicitDefEqProofs -dsimp only [go_sem, seval, *])) <;> (repeat' refine And.intro ?_ ?_) <;> (first | omega | rfl | assumption | skip)
theorem exprD_nodes (d : Flat) (e : E) (w : Int) : nodes (exprD d e w).1 ≤ nodes e := by
  have hz : nodes zE ≤ nodes e := by
    have h1 := nodes_pos e
    have : nodes zE = 1 := by rw [nodes_eq]; rfl
    omega
  unfold exprD
  split
  · exact hz
  rename_i h
  split
  · exact hz
  rename_i h2
  have hs : shp d.sigs e = true := by
    cases q : shp d.sigs e with
    | true => rfl
    | false => exact (h (.inr (.inr (.inr q)))).elim
  have hg : sigsOk d.sigs = true := by
    cases q : sigsOk d.sigs with
    | true => rfl
    | false => exact (h (.inl q)).elim
  by_cases hf : (size e w).2 = 0
  · have := size_main (sigsOk_ok hg) e w (size e w).1 hs (by omega) (by rw [← hf])
    rw [this.nodes]; exact Nat.le_refl _
  · have : (size e w).1 = zE := by
      rw [size_eq] at hf ⊢
      split
      · rfl
      rename_i q1
      rw [if_neg q1] at hf
      split
      · rename_i q2
        rw [if_pos q2] at hf
        split
        · rename_i q3; rw [if_pos q3] at hf; simp at hf
        · rfl
      · rename_i q2
        rw [if_neg q2] at hf
        split
        · rfl
        · rename_i ws hws
          rw [hws] at hf
          simp only [sizeK] at hf ⊢
          split
          · rfl
          rename_i q3
          rw [if_neg q3] at hf
          split
          · rfl
          · rename_i q4; rw [if_neg q4] at hf; simp at hf
    rw [this]; exact hz
open Classical in
theorem sz_CheckE (d : Flat) (e : E) (σ : Sig) (hd : d.sigs.length ≤ 1000000000000) (he : nodes e ≤ 16777216) (hw : WfE e) : ACalls Try.prog 19 [encD d, encE e] σ (fun r σ' => r = .ret (.int .i64 (checkE d e)) ∧ σ' = σ) := by
  have h1 := encEs_eq e
  have c1 := fun τ => sz_Expr d e e.w τ hd he hw
  have hn := exprD_nodes d e e.w
  have hc : checkE d e = if (exprD d e e.w).2 = 0 ∧ (e.w = 0 ∨ ¬ (exprD d e e.w).1 = e) then 90 else (exprD d e e.w).2 := rfl
  obtain ⟨⟨x, f⟩, hR⟩ : ∃ R, exprD d e e.w = R := ⟨_, rfl⟩
  rw [hR] at c1 hn hc
  simp only at c1 hn hc
  have c2 := fun τ => sz_SameE x e τ (by omega) he
  refine calls_x mixed Try.func19 b19 n19 rfl q19 (by simp) ?_; unfold c19 r19
  obtain ⟨C, hC⟩ : ∃ C, checkE d e = C := ⟨_, rfl⟩
  rw [hC] at hc ⊢
  obtain ⟨s, hs⟩ : ∃ s, same x e = s := ⟨_, rfl⟩
  rw [hs] at c2
  clear hR hC hw he hn
  by_cases hf : f = 0
  · by_cases he : e.w = 0
    · rw [if_pos ⟨hf, .inl he⟩] at hc
      clear hs
      repeat' (first | simp (maxDischargeDepth := 9) -implicitDefEqProofs -dsimp only [go_sem, seval, *] | ((with_reducible refine Zt (fun oF hoF hnF hnF' => ?_)); (try simp only [upd_none, ne_eq, not_and] at hoF)) | ((with_reducible apply ACalls.one1); (focus ((first | with_reducible refine c1 _ | with_reducible refine ACalls.flA (c1 _) ?_) <;> (first | (simp (maxDischargeDepth := 9) -implicitDefEqProofs -dsimp only [go_sem, seval, *]; done) | omega))); (focus (first | trivial | with_reducible exact rfl | (simp (maxDischargeDepth := 9) -implicitDefEqProofs -dsimp only [go_sem, seval]; done)))))
      refine fin_eq ?_
      (repeat' (first | simp (maxDischargeDepth := 9) -implicitDefEqProofs -dsimp only [go_sem, seval, *])) <;> (repeat' refine And.intro ?_ ?_) <;> (first | omega | rfl | assumption | skip)
    · have hb : (e.w == 0) = false := by simpa using he
      cases s
      · rw [if_pos ⟨hf, .inr (same_false.1 hs)⟩] at hc
        clear hs he
        repeat' (first | simp (maxDischargeDepth := 9) -implicitDefEqProofs -dsimp only [go_sem, seval, *] | ((with_reducible refine Zt (fun oF hoF hnF hnF' => ?_)); (try simp only [upd_none, ne_eq, not_and] at hoF)) | ((with_reducible apply ACalls.one1); (focus ((first | with_reducible refine c1 _ | with_reducible refine c2 _ | with_reducible refine ACalls.flA (c1 _) ?_ | with_reducible refine ACalls.flA (c2 _) ?_) <;> (first | (simp (maxDischargeDepth := 9) -implicitDefEqProofs -dsimp only [go_sem, seval, *]; done) | omega))); (focus (first | trivial | with_reducible exact rfl | (simp (maxDischargeDepth := 9) -implicitDefEqProofs -dsimp only [go_sem, seval]; done)))))
        refine fin_eq ?_
        (repeat' (first | simp (maxDischargeDepth := 9) -implicitDefEqProofs -dsimp only [go_sem, seval, *])) <;> (repeat' refine And.intro ?_ ?_) <;> (first | omega | rfl | assumption | skip)
      · rw [if_neg (fun h => by rcases h.2 with q | q; exact he q; exact q (same_iff.1 hs))] at hc
        clear hs he
        repeat' (first | simp (maxDischargeDepth := 9) -implicitDefEqProofs -dsimp only [go_sem, seval, *] | ((with_reducible refine Zt (fun oF hoF hnF hnF' => ?_)); (try simp only [upd_none, ne_eq, not_and] at hoF)) | ((with_reducible apply ACalls.one1); (focus ((first | with_reducible refine c1 _ | with_reducible refine c2 _ | with_reducible refine ACalls.flA (c1 _) ?_ | with_reducible refine ACalls.flA (c2 _) ?_) <;> (first | (simp (maxDischargeDepth := 9) -implicitDefEqProofs -dsimp only [go_sem, seval, *]; done) | omega))); (focus (first | trivial | with_reducible exact rfl | (simp (maxDischargeDepth := 9) -implicitDefEqProofs -dsimp only [go_sem, seval]; done)))))
        refine fin_eq ?_
        (repeat' (first | simp (maxDischargeDepth := 9) -implicitDefEqProofs -dsimp only [go_sem, seval, *])) <;> (repeat' refine And.intro ?_ ?_) <;> (first | omega | rfl | assumption | skip)
  · have hb : (f == 0) = false := by simpa using hf
    rw [if_neg (fun h => hf h.1)] at hc
    clear hs hf
    repeat' (first | simp (maxDischargeDepth := 9) -implicitDefEqProofs -dsimp only [go_sem, seval, *] | ((with_reducible refine Zt (fun oF hoF hnF hnF' => ?_)); (try simp only [upd_none, ne_eq, not_and] at hoF)) | ((with_reducible apply ACalls.one1); (focus ((first | with_reducible refine c1 _ | with_reducible refine c2 _ | with_reducible refine ACalls.flA (c1 _) ?_ | with_reducible refine ACalls.flA (c2 _) ?_) <;> (first | (simp (maxDischargeDepth := 9) -implicitDefEqProofs -dsimp only [go_sem, seval, *]; done) | omega))); (focus (first | trivial | with_reducible exact rfl | (simp (maxDischargeDepth := 9) -implicitDefEqProofs -dsimp only [go_sem, seval]; done)))))
    refine fin_eq ?_
    (repeat' (first | simp (maxDischargeDepth := 9) -implicitDefEqProofs -dsimp only [go_sem, seval, *])) <;> (repeat' refine And.intro ?_ ?_) <;> (first | omega | rfl | assumption | skip)
end Go.Proofs.Ytdiebjnjhgbklaa

namespace Go.Proofs.Ytdiebjnjhgbklaa
open Abs Fil Fil.Sz
theorem sl_indexT (p : T → Bool) (l : List T) (hl : l.length ≤ 1000000000000) (σ : Sig) {F : Nat} {caps : List AV} (hF : ∀ x ∈ l, ACalls Try.prog F (encT x :: caps) σ (fun r σ' => r = .ret (.bool (p x)) ∧ σ' = σ)) :
    ACalls Try.prog 103 [.slice (l.map encT) .no, .fn F [] caps] σ (fun r σ' => r = .ret (.int .i64 (idxF p l)) ∧ σ' = σ) :=
  lib_indexFunc (sz := 6) (g := true) mixed Try.func103 b103 n103 rfl q103 (fun _ => rfl) (fun _ => rfl) p l hl hF
theorem sl_containsT (p : T → Bool) (l : List T) (hl : l.length ≤ 1000000000000) (σ : Sig) {F : Nat} {caps : List AV} (hF : ∀ x ∈ l, ACalls Try.prog F (encT x :: caps) σ (fun r σ' => r = .ret (.bool (p x)) ∧ σ' = σ)) :
    ACalls Try.prog 87 [.slice (l.map encT) .no, .fn F [] caps] σ (fun r σ' => r = .ret (.bool (l.any p)) ∧ σ' = σ) :=
  lib_containsFunc mixed Try.func87 b87 n87 rfl q87 p l (sl_indexT p l hl σ hF)
theorem sl_indexP (p : Pr → Bool) (l : List Pr) (hl : l.length ≤ 1000000000000) (σ : Sig) {F : Nat} {caps : List AV} (hF : ∀ x ∈ l, ACalls Try.prog F (encP x :: caps) σ (fun r σ' => r = .ret (.bool (p x)) ∧ σ' = σ)) :
    ACalls Try.prog 104 [.slice (l.map encP) .no, .fn F [] caps] σ (fun r σ' => r = .ret (.int .i64 (idxF p l)) ∧ σ' = σ) :=
  lib_indexFunc (sz := 2) (g := true) mixed Try.func104 b104 n104 rfl q104 (fun _ => rfl) (fun _ => rfl) p l hl hF
theorem sl_containsP (p : Pr → Bool) (l : List Pr) (hl : l.length ≤ 1000000000000) (σ : Sig) {F : Nat} {caps : List AV} (hF : ∀ x ∈ l, ACalls Try.prog F (encP x :: caps) σ (fun r σ' => r = .ret (.bool (p x)) ∧ σ' = σ)) :
    ACalls Try.prog 89 [.slice (l.map encP) .no, .fn F [] caps] σ (fun r σ' => r = .ret (.bool (l.any p)) ∧ σ' = σ) :=
  lib_containsFunc mixed Try.func89 b89 n89 rfl q89 p l (sl_indexP p l hl σ hF)
theorem sl_indexC (p : Ck → Bool) (l : List Ck) (hl : l.length ≤ 1000000000000) (σ : Sig) {F : Nat} {caps : List AV} (hF : ∀ x ∈ l, ACalls Try.prog F (encC x :: caps) σ (fun r σ' => r = .ret (.bool (p x)) ∧ σ' = σ)) :
    ACalls Try.prog 105 [.slice (l.map encC) .no, .fn F [] caps] σ (fun r σ' => r = .ret (.int .i64 (idxF p l)) ∧ σ' = σ) :=
  lib_indexFunc (sz := 9) (g := true) mixed Try.func105 b105 n105 rfl q105 (fun _ => rfl) (fun _ => rfl) p l hl hF
theorem sl_containsC (p : Ck → Bool) (l : List Ck) (hl : l.length ≤ 1000000000000) (σ : Sig) {F : Nat} {caps : List AV} (hF : ∀ x ∈ l, ACalls Try.prog F (encC x :: caps) σ (fun r σ' => r = .ret (.bool (p x)) ∧ σ' = σ)) :
    ACalls Try.prog 90 [.slice (l.map encC) .no, .fn F [] caps] σ (fun r σ' => r = .ret (.bool (l.any p)) ∧ σ' = σ) :=
  lib_containsFunc mixed Try.func90 b90 n90 rfl q90 p l (sl_indexC p l hl σ hF)
theorem all_any {α : Type} (l : List α) (p : α → Bool) : l.all p = !l.any fun x => !p x := by
  rw [Bool.eq_iff_iff]; simp [List.any_eq_true, List.all_eq_true]
theorem armT_any (g : List Sg) (t : T) : armT g t = (decide (t.op = 4 ∧ t.sig = 0 ∧ t.hi = 0 ∧ t.lo = 0) && (!(t.e.any fun x => !(decide (x.op = 1) && shp g x)) && !(t.l.any fun s => !shpT g s))) := by
  rw [armT_eq, all_any t.e, all_any t.l, Bool.and_assoc]
set_option maxRecDepth 20000 in
set_option maxHeartbeats 1000000 in
theorem sz_arms_step (g : List Sg) (hg : g.length ≤ 1000000000000) (l : List T) (hn : (l.map nodesT).sum ≤ 16777216) (hw : ∀ t ∈ l, WfT t)
    (ih : ∀ a ∈ l, ∀ s ∈ a.l, ∀ τ, ACalls Try.prog 85 [.slice (g.map encS) .no, encT s] τ (fun r σ' => r = .ret (.bool (shpT g s)) ∧ σ' = τ)) (σ : Sig) :
    ACalls Try.prog 102 [.slice (g.map encS) .no, .slice (l.map encT) .no] σ (fun r σ' => r = .ret (.bool (armsT g l)) ∧ σ' = σ) := by
  have l1 := len_sum nodesT_pos l
  have clo1 : ∀ a ∈ l, ∀ (b : Nat) (τ : Sig), τ b = some (.cells [.slice (g.map encS) .no]) → ∀ x ∈ a.e, ACalls Try.prog 108 (encE x :: [.ptr b 0]) τ (fun r σ' => r = .ret (.bool (!(decide (x.op = 1) && shp g x))) ∧ σ' = τ) := fun a ha b τ hb x hx => by
    have hc := fun τ => sz_shape g hg x τ (by have := mem_sum (f := nodesT) ha; have := partE_nodes hx; omega) (((WfT_iff a).1 (hw a ha)).2.1 x hx)
    refine calls_x mixed Try.func108 b108 n108 rfl q108 (by simp) ?_; unfold c108 r108
    by_cases ho : x.op = 1
    · have hob : (x.op != 1) = false := by simp [ho]
      have hd : decide (x.op = 1) = true := by simp [ho]
      rw [hd, Bool.true_and]
      clear ho hd
      repeat' (first | simp (maxDischargeDepth := 9) -implicitDefEqProofs -dsimp only [go_sem, seval, *] | simp (disch := omega) only [wrap64] | (with_reducible (first | apply Zh | apply Zp | apply Zq | apply Zr) <;> intro hq) | ((with_reducible refine Zu ?_ ?_); focus omega) | ((with_reducible refine Zt (fun oF hoF hnF hnF' => ?_)); (try simp only [upd_none, ne_eq, not_and] at hoF)) | ((with_reducible apply ACalls.one1); (focus ((first | with_reducible refine hc _) <;> (first | (simp (maxDischargeDepth := 9) -implicitDefEqProofs -dsimp only [go_sem, seval, *]; done) | omega))); (focus (first | trivial | with_reducible exact rfl | (simp (maxDischargeDepth := 9) -implicitDefEqProofs -dsimp only [go_sem, seval]; done)))))
      refine fin_eq ?_
      (repeat' (first | simp (maxDischargeDepth := 9) -implicitDefEqProofs -dsimp only [go_sem, seval, *] | simp (disch := omega) only [wrap64])) <;> (repeat' refine And.intro ?_ ?_) <;> (first | omega | rfl | assumption | skip)
    · have hob : (x.op != 1) = true := by simp [ho]
      have hd : decide (x.op = 1) = false := by simp [ho]
      rw [hd, Bool.false_and]
      clear ho hd
      repeat' (first | simp (maxDischargeDepth := 9) -implicitDefEqProofs -dsimp only [go_sem, seval, *] | simp (disch := omega) only [wrap64] | (with_reducible (first | apply Zh | apply Zp | apply Zq | apply Zr) <;> intro hq) | ((with_reducible refine Zu ?_ ?_); focus omega) | ((with_reducible refine Zt (fun oF hoF hnF hnF' => ?_)); (try simp only [upd_none, ne_eq, not_and] at hoF)) | ((with_reducible apply ACalls.one1); (focus ((first | with_reducible refine hc _) <;> (first | (simp (maxDischargeDepth := 9) -implicitDefEqProofs -dsimp only [go_sem, seval, *]; done) | omega))); (focus (first | trivial | with_reducible exact rfl | (simp (maxDischargeDepth := 9) -implicitDefEqProofs -dsimp only [go_sem, seval]; done)))))
      refine fin_eq ?_
      (repeat' (first | simp (maxDischargeDepth := 9) -implicitDefEqProofs -dsimp only [go_sem, seval, *] | simp (disch := omega) only [wrap64])) <;> (repeat' refine And.intro ?_ ?_) <;> (first | omega | rfl | assumption | skip)
  have clo2 : ∀ a ∈ l, ∀ (b : Nat) (τ : Sig), τ b = some (.cells [.slice (g.map encS) .no]) → ∀ x ∈ a.l, ACalls Try.prog 109 (encT x :: [.ptr b 0]) τ (fun r σ' => r = .ret (.bool (!shpT g x)) ∧ σ' = τ) := fun a ha b τ hb x hx => by
    have hc := fun τ => ih a ha x hx τ
    refine calls_x mixed Try.func109 b109 n109 rfl q109 (by simp) ?_; unfold c109 r109
    repeat' (first | simp (maxDischargeDepth := 9) -implicitDefEqProofs -dsimp only [go_sem, seval, *] | simp (disch := omega) only [wrap64] | (with_reducible (first | apply Zh | apply Zp | apply Zq | apply Zr) <;> intro hq) | ((with_reducible refine Zu ?_ ?_); focus omega) | ((with_reducible refine Zt (fun oF hoF hnF hnF' => ?_)); (try simp only [upd_none, ne_eq, not_and] at hoF)) | ((with_reducible apply ACalls.one1); (focus ((first | with_reducible refine hc _) <;> (first | (simp (maxDischargeDepth := 9) -implicitDefEqProofs -dsimp only [go_sem, seval, *]; done) | omega))); (focus (first | trivial | with_reducible exact rfl | (simp (maxDischargeDepth := 9) -implicitDefEqProofs -dsimp only [go_sem, seval]; done)))))
    refine fin_eq ?_
    (repeat' (first | simp (maxDischargeDepth := 9) -implicitDefEqProofs -dsimp only [go_sem, seval, *] | simp (disch := omega) only [wrap64])) <;> (repeat' refine And.intro ?_ ?_) <;> (first | omega | rfl | assumption | skip)
  have con1 := fun (a : T) (ha : a ∈ l) (b : Nat) (τ : Sig) (hb : τ b = some (.cells [.slice (g.map encS) .no])) => sl_containsE (fun x => !(decide (x.op = 1) && shp g x)) a.e (by have := mem_sum (f := nodesT) ha; have := lenE_nodes a; omega) τ (clo1 a ha b τ hb)
  have con2 := fun (a : T) (ha : a ∈ l) (b : Nat) (τ : Sig) (hb : τ b = some (.cells [.slice (g.map encS) .no])) => sl_containsT (fun x => !shpT g x) a.l (by have := mem_sum (f := nodesT) ha; have := lenL_nodes a; omega) τ (clo2 a ha b τ hb)
  clear clo1 clo2 ih hw
  refine calls_x mixed Try.func102 b102 n102 rfl q102 (by simp) ?_; unfold c102 r102
  repeat' (first | simp (maxDischargeDepth := 9) -implicitDefEqProofs -dsimp only [go_sem, seval, *] | simp (disch := omega) only [wrap64] | (with_reducible (first | apply Zh | apply Zp | apply Zq | apply Zr) <;> intro hq) | ((with_reducible refine Zu ?_ ?_); focus omega) | ((with_reducible refine Zt (fun oF hoF hnF hnF' => ?_)); (try simp only [upd_none, ne_eq, not_and] at hoF)))
  obtain ⟨o, eo⟩ : ∃ x, x = oF := ⟨oF, rfl⟩
  subst eo
  have ho : σ o = none := hoF
  clear hoF hnF hnF'
  refine loop_rule (fun i : Nat => [(11, some (.int .i64 i)), (10, some (.int .i64 l.length)), (9, some (.slice (l.map encT) .no)), (2, some (.ptr o 0)), (1, some (.slice (l.map encT) .no))])
    (fun _ => upd σ o (.cells [.slice (g.map encS) .no])) (fun i => i ≤ l.length ∧ ∀ j, (h : j < l.length) → j < i → armT g l[j] = true ∧ (l[j].e.length = 0 ↔ j + 1 = l.length)) (fun i => l.length - i) 0 ?_ ?_
  · clear con1 con2
    (repeat' (first | simp (maxDischargeDepth := 9) -implicitDefEqProofs -dsimp only [go_sem, seval, *] | simp (disch := omega) only [wrap64])) <;> (repeat' refine And.intro ?_ ?_) <;> (first | omega | rfl | assumption | skip)
  · rintro i ⟨hi, hok⟩
    by_cases hlt : i < l.length
    · have hx := encTs_eq l[i]
      have hbad : ¬ (armT g l[i] = true ∧ (l[i].e.length = 0 ↔ i + 1 = l.length)) → armsT g l = false := fun h => by
        cases hh : armsT g l with
        | false => rfl
        | true =>
          unfold armsT at hh
          rw [Bool.and_eq_true, decide_eq_true_eq, List.all_eq_true] at hh
          exact (h ⟨hh.2 _ (List.getElem_mem hlt), hh.1.2 i hlt⟩).elim
      have hstep : (armT g l[i] = true ∧ (l[i].e.length = 0 ↔ i + 1 = l.length)) → ∀ j, (h : j < l.length) → j < i + 1 → armT g l[j] = true ∧ (l[j].e.length = 0 ↔ j + 1 = l.length) := fun hp j h1 h => by
        rcases Nat.lt_or_ge j i with h' | h'
        · exact hok j h1 h'
        · obtain rfl : j = i := by omega
          exact hp
      have c1 := con1 l[i] (List.getElem_mem hlt)
      have c2 := con2 l[i] (List.getElem_mem hlt)
      have ha := armT_any g l[i]
      clear con1 con2 hok
      obtain ⟨A, hA⟩ : ∃ A, (l[i].e.any fun x => !(decide (x.op = 1) && shp g x)) = A := ⟨_, rfl⟩
      obtain ⟨B, hB⟩ : ∃ A, (l[i].l.any fun s => !shpT g s) = A := ⟨_, rfl⟩
      rw [hA] at c1 ha
      rw [hB] at c2 ha
      clear hA hB
      obtain ⟨p1, hp1⟩ : ∃ p, ((l[i].e.length : Int) == 0) = p := ⟨_, rfl⟩
      obtain ⟨p2, hp2⟩ : ∃ p, ((i : Int) + 1 == l.length) = p := ⟨_, rfl⟩
      have hpos : (l[i].e.length = 0 ↔ i + 1 = l.length) ↔ p1 = p2 := by
        rw [← hp1, ← hp2, Bool.eq_iff_iff]; simp; omega
      rw [hpos] at hbad hstep
      clear hpos
      have bft : ((false : Bool) == true) = false := rfl
      have btf : ((true : Bool) == false) = false := rfl
      by_cases hf : l[i].op = 4 ∧ l[i].sig = 0 ∧ l[i].hi = 0 ∧ l[i].lo = 0
      · rw [show decide (l[i].op = 4 ∧ l[i].sig = 0 ∧ l[i].hi = 0 ∧ l[i].lo = 0) = true from decide_eq_true hf, Bool.true_and] at ha
        obtain ⟨f1, f2, f3, f4⟩ := hf
        by_cases hpp : p1 = p2
        · subst hpp
          have hpp : (p1 == p1) = true := by simp
          cases A
          · cases B
            · have hn := hstep ⟨by rw [ha]; rfl, rfl⟩
              clear hbad hstep ha
              repeat' (first | simp (maxDischargeDepth := 9) -implicitDefEqProofs -dsimp only [go_sem, seval, *] | simp (disch := omega) only [wrap64] | (with_reducible (first | apply Zh | apply Zp | apply Zq | apply Zr) <;> intro hq) | ((with_reducible refine Zu ?_ ?_); focus omega) | ((with_reducible refine Zt (fun oF hoF hnF hnF' => ?_)); (try simp only [upd_none, ne_eq, not_and] at hoF)) | ((with_reducible apply ACalls.one1); (focus ((first | with_reducible refine c1 _ _ ?_ | with_reducible refine c2 _ _ ?_) <;> (first | (simp (maxDischargeDepth := 9) -implicitDefEqProofs -dsimp only [go_sem, seval, *]; done) | omega))); (focus (first | trivial | with_reducible exact rfl | (simp (maxDischargeDepth := 9) -implicitDefEqProofs -dsimp only [go_sem, seval]; done)))))
              refine loop_next _ _ _ _ (i + 1) ?_; (repeat' (first | simp (maxDischargeDepth := 9) -implicitDefEqProofs -dsimp only [go_sem, seval, *] | simp (disch := omega) only [wrap64])) <;> (repeat' refine And.intro ?_ ?_) <;> (first | omega | rfl | assumption | skip)
            · rw [hbad (fun h => by rw [ha] at h; simp at h)]
              clear hbad hstep ha
              repeat' (first | simp (maxDischargeDepth := 9) -implicitDefEqProofs -dsimp only [go_sem, seval, *] | simp (disch := omega) only [wrap64] | (with_reducible (first | apply Zh | apply Zp | apply Zq | apply Zr) <;> intro hq) | ((with_reducible refine Zu ?_ ?_); focus omega) | ((with_reducible refine Zt (fun oF hoF hnF hnF' => ?_)); (try simp only [upd_none, ne_eq, not_and] at hoF)) | ((with_reducible apply ACalls.one1); (focus ((first | with_reducible refine c1 _ _ ?_ | with_reducible refine c2 _ _ ?_) <;> (first | (simp (maxDischargeDepth := 9) -implicitDefEqProofs -dsimp only [go_sem, seval, *]; done) | omega))); (focus (first | trivial | with_reducible exact rfl | (simp (maxDischargeDepth := 9) -implicitDefEqProofs -dsimp only [go_sem, seval]; done)))))
              refine fin_eq ?_
              (repeat' (first | simp (maxDischargeDepth := 9) -implicitDefEqProofs -dsimp only [go_sem, seval, *] | simp (disch := omega) only [wrap64])) <;> (repeat' refine And.intro ?_ ?_) <;> (first | omega | rfl | assumption | skip)
          · rw [hbad (fun h => by rw [ha] at h; simp at h)]
            clear hbad hstep ha
            repeat' (first | simp (maxDischargeDepth := 9) -implicitDefEqProofs -dsimp only [go_sem, seval, *] | simp (disch := omega) only [wrap64] | (with_reducible (first | apply Zh | apply Zp | apply Zq | apply Zr) <;> intro hq) | ((with_reducible refine Zu ?_ ?_); focus omega) | ((with_reducible refine Zt (fun oF hoF hnF hnF' => ?_)); (try simp only [upd_none, ne_eq, not_and] at hoF)) | ((with_reducible apply ACalls.one1); (focus ((first | with_reducible refine c1 _ _ ?_ | with_reducible refine c2 _ _ ?_) <;> (first | (simp (maxDischargeDepth := 9) -implicitDefEqProofs -dsimp only [go_sem, seval, *]; done) | omega))); (focus (first | trivial | with_reducible exact rfl | (simp (maxDischargeDepth := 9) -implicitDefEqProofs -dsimp only [go_sem, seval]; done)))))
            refine fin_eq ?_
            (repeat' (first | simp (maxDischargeDepth := 9) -implicitDefEqProofs -dsimp only [go_sem, seval, *] | simp (disch := omega) only [wrap64])) <;> (repeat' refine And.intro ?_ ?_) <;> (first | omega | rfl | assumption | skip)
        · rw [hbad (fun h => hpp h.2)]
          have hpb : (p1 == p2) = false := by simpa using hpp
          clear hbad hstep hpp
          repeat' (first | simp (maxDischargeDepth := 9) -implicitDefEqProofs -dsimp only [go_sem, seval, *] | simp (disch := omega) only [wrap64] | (with_reducible (first | apply Zh | apply Zp | apply Zq | apply Zr) <;> intro hq) | ((with_reducible refine Zu ?_ ?_); focus omega) | ((with_reducible refine Zt (fun oF hoF hnF hnF' => ?_)); (try simp only [upd_none, ne_eq, not_and] at hoF)) | ((with_reducible apply ACalls.one1); (focus ((first | with_reducible refine c1 _ _ ?_ | with_reducible refine c2 _ _ ?_) <;> (first | (simp (maxDischargeDepth := 9) -implicitDefEqProofs -dsimp only [go_sem, seval, *]; done) | omega))); (focus (first | trivial | with_reducible exact rfl | (simp (maxDischargeDepth := 9) -implicitDefEqProofs -dsimp only [go_sem, seval]; done)))))
          refine fin_eq ?_
          (repeat' (first | simp (maxDischargeDepth := 9) -implicitDefEqProofs -dsimp only [go_sem, seval, *] | simp (disch := omega) only [wrap64])) <;> (repeat' refine And.intro ?_ ?_) <;> (first | omega | rfl | assumption | skip)
      · rw [show decide (l[i].op = 4 ∧ l[i].sig = 0 ∧ l[i].hi = 0 ∧ l[i].lo = 0) = false from decide_eq_false hf, Bool.false_and] at ha
        rw [hbad (fun h => by rw [ha] at h; simp at h)]
        clear hbad hstep ha
        repeat' (first | simp (maxDischargeDepth := 9) -implicitDefEqProofs -dsimp only [go_sem, seval, *] | simp (disch := omega) only [wrap64] | (with_reducible (first | apply Zh | apply Zp | apply Zq | apply Zr) <;> intro hq) | ((with_reducible refine Zu ?_ ?_); focus omega) | ((with_reducible refine Zt (fun oF hoF hnF hnF' => ?_)); (try simp only [upd_none, ne_eq, not_and] at hoF)) | ((with_reducible apply ACalls.one1); (focus ((first | with_reducible refine c1 _ _ ?_ | with_reducible refine c2 _ _ ?_) <;> (first | (simp (maxDischargeDepth := 9) -implicitDefEqProofs -dsimp only [go_sem, seval, *]; done) | omega))); (focus (first | trivial | with_reducible exact rfl | (simp (maxDischargeDepth := 9) -implicitDefEqProofs -dsimp only [go_sem, seval]; done)))))
        all_goals first | (exfalso; apply hf; clear c1 c2; omega) | skip
        all_goals
          refine fin_eq ?_
          (repeat' (first | simp (maxDischargeDepth := 9) -implicitDefEqProofs -dsimp only [go_sem, seval, *] | simp (disch := omega) only [wrap64])) <;> (repeat' refine And.intro ?_ ?_) <;> (first | omega | rfl | assumption | skip)
    · have ei : i = l.length := by omega
      subst ei
      have hv : armsT g l = decide (0 < (l.length : Int)) := by
        by_cases h0 : 0 < l.length
        · rw [decide_eq_true (by omega)]
          unfold armsT
          rw [Bool.and_eq_true, decide_eq_true_eq, List.all_eq_true]
          refine ⟨⟨h0, fun j hj => (hok j hj hj).2⟩, fun x hx => ?_⟩
          obtain ⟨j, hj, rfl⟩ := List.getElem_of_mem hx
          exact (hok j hj hj).1
        · rw [decide_eq_false (by omega)]
          unfold armsT
          rw [Bool.and_eq_false_iff]
          exact .inl (decide_eq_false fun h => h0 h.1)
      clear con1 con2 hok
      repeat' (first | simp (maxDischargeDepth := 9) -implicitDefEqProofs -dsimp only [go_sem, seval, gt_iff_lt, *] | simp (disch := omega) only [wrap64] | (with_reducible (first | apply Zh | apply Zp | apply Zq | apply Zr) <;> intro hq) | ((with_reducible refine Zu ?_ ?_); focus omega) | ((with_reducible refine Zt (fun oF hoF hnF hnF' => ?_)); (try simp only [upd_none, ne_eq, not_and] at hoF)))
      refine fin_eq ?_
      (repeat' (first | simp (maxDischargeDepth := 9) -implicitDefEqProofs -dsimp only [go_sem, seval, *] | simp (disch := omega) only [wrap64])) <;> (repeat' refine And.intro ?_ ?_) <;> (first | omega | rfl | assumption | skip)
set_option maxRecDepth 20000 in
set_option maxHeartbeats 2000000 in
theorem sz_shapeT_step (g : List Sg) (hg : g.length ≤ 1000000000000) (t : T) (hn : nodesT t ≤ 16777216) (hw : WfT t)
    (ih : ∀ s ∈ t.l, ∀ τ, ACalls Try.prog 85 [.slice (g.map encS) .no, encT s] τ (fun r σ' => r = .ret (.bool (shpT g s)) ∧ σ' = τ))
    (ih2 : ∀ a ∈ t.l, ∀ s ∈ a.l, ∀ τ, ACalls Try.prog 85 [.slice (g.map encS) .no, encT s] τ (fun r σ' => r = .ret (.bool (shpT g s)) ∧ σ' = τ)) (σ : Sig) :
    ACalls Try.prog 85 [.slice (g.map encS) .no, encT t] σ (fun r σ' => r = .ret (.bool (shpT g t)) ∧ σ' = σ) := by
  have h1 := encTs_eq t
  have l1 := lenE_nodes t
  have l2 := lenL_nodes t
  have l3 := sub_nodesT t
  have w8 := (WfT_iff t).1 hw
  have clo1 : ∀ (b : Nat) (τ : Sig), τ b = some (.cells [.slice (g.map encS) .no]) → ∀ x ∈ t.e, ACalls Try.prog 100 (encE x :: [.ptr b 0]) τ (fun r σ' => r = .ret (.bool (!shp g x)) ∧ σ' = τ) := fun b τ hb x hx => by
    have hc := fun τ => sz_shape g hg x τ (by have := partE_nodes hx; omega) (w8.2.1 x hx)
    refine calls_x mixed Try.func100 b100 n100 rfl q100 (by simp) ?_; unfold c100 r100
    repeat' (first | simp (maxDischargeDepth := 9) -implicitDefEqProofs -dsimp only [go_sem, seval, *] | (with_reducible (first | apply Zc | apply Zd | apply Zf | apply Zh | apply Zi) <;> intro hq) | ((with_reducible refine Zu ?_ ?_); focus omega) | ((with_reducible refine Zt (fun oF hoF hnF hnF' => ?_)); (try simp only [upd_none, ne_eq, not_and] at hoF)) | ((with_reducible apply ACalls.one1); (focus ((first | with_reducible refine hc _) <;> (first | (simp (maxDischargeDepth := 9) -implicitDefEqProofs -dsimp only [go_sem, seval, *]; done) | omega))); (focus (first | trivial | with_reducible exact rfl | (simp (maxDischargeDepth := 9) -implicitDefEqProofs -dsimp only [go_sem, seval]; done)))))
    refine fin_eq ?_
    (repeat' (first | simp (maxDischargeDepth := 9) -implicitDefEqProofs -dsimp only [go_sem, seval, *])) <;> (repeat' refine And.intro ?_ ?_) <;> (first | omega | rfl | assumption | skip)
  have clo2 : ∀ (b : Nat) (τ : Sig), τ b = some (.cells [.slice (g.map encS) .no]) → ∀ x ∈ t.l, ACalls Try.prog 101 (encT x :: [.ptr b 0]) τ (fun r σ' => r = .ret (.bool (!shpT g x)) ∧ σ' = τ) := fun b τ hb x hx => by
    have hc := fun τ => ih x hx τ
    refine calls_x mixed Try.func101 b101 n101 rfl q101 (by simp) ?_; unfold c101 r101
    repeat' (first | simp (maxDischargeDepth := 9) -implicitDefEqProofs -dsimp only [go_sem, seval, *] | (with_reducible (first | apply Zc | apply Zd | apply Zf | apply Zh | apply Zi) <;> intro hq) | ((with_reducible refine Zu ?_ ?_); focus omega) | ((with_reducible refine Zt (fun oF hoF hnF hnF' => ?_)); (try simp only [upd_none, ne_eq, not_and] at hoF)) | ((with_reducible apply ACalls.one1); (focus ((first | with_reducible refine hc _) <;> (first | (simp (maxDischargeDepth := 9) -implicitDefEqProofs -dsimp only [go_sem, seval, *]; done) | omega))); (focus (first | trivial | with_reducible exact rfl | (simp (maxDischargeDepth := 9) -implicitDefEqProofs -dsimp only [go_sem, seval]; done)))))
    refine fin_eq ?_
    (repeat' (first | simp (maxDischargeDepth := 9) -implicitDefEqProofs -dsimp only [go_sem, seval, *])) <;> (repeat' refine And.intro ?_ ?_) <;> (first | omega | rfl | assumption | skip)
  have c1 := fun (b : Nat) (τ : Sig) (hb : τ b = some (.cells [.slice (g.map encS) .no])) => sl_containsE (fun x => !shp g x) t.e (by omega) τ (clo1 b τ hb)
  have c2 := fun (b : Nat) (τ : Sig) (hb : τ b = some (.cells [.slice (g.map encS) .no])) => sl_containsT (fun x => !shpT g x) t.l (by omega) τ (clo2 b τ hb)
  have c3 := fun τ => sz_arms_step g hg t.l (by omega) w8.2.2 ih2 τ
  have c4 := fun τ => sz_slice g t.sig t.hi t.lo τ hg
  have hs := shpT_eq g t
  rw [all_any t.e, all_any t.l (shpT g)] at hs
  obtain ⟨A, hA⟩ : ∃ A, (t.e.any fun x => !shp g x) = A := ⟨_, rfl⟩
  obtain ⟨B, hB⟩ : ∃ A, (t.l.any fun s => !shpT g s) = A := ⟨_, rfl⟩
  obtain ⟨C, hC⟩ : ∃ A, armsT g t.l = A := ⟨_, rfl⟩
  obtain ⟨D, hD⟩ : ∃ A, place g t.sig t.hi t.lo = A := ⟨_, rfl⟩
  rw [hA] at c1 hs
  rw [hB] at c2 hs
  rw [hC] at c3 hs
  rw [hD] at c4 hs
  clear clo1 clo2 ih ih2 w8 hw hA hB hC hD
  refine calls_x mixed Try.func85 b85 n85 rfl q85 (by simp) ?_; unfold c85 r85
  cases A
  case true =>
    have hv : shpT g t = false := by rw [hs]; simp
    clear hs c2 c3 c4
    repeat' (first | simp (maxDischargeDepth := 9) -implicitDefEqProofs -dsimp only [go_sem, seval, *] | (with_reducible (first | apply Zc | apply Zd | apply Zf | apply Zh | apply Zi) <;> intro hq) | ((with_reducible refine Zu ?_ ?_); focus omega) | ((with_reducible refine Zt (fun oF hoF hnF hnF' => ?_)); (try simp only [upd_none, ne_eq, not_and] at hoF)) | ((with_reducible apply ACalls.one1); (focus ((first | with_reducible refine c1 _ _ ?_) <;> (first | (simp (maxDischargeDepth := 9) -implicitDefEqProofs -dsimp only [go_sem, seval, *]; done) | omega))); (focus (first | trivial | with_reducible exact rfl | (simp (maxDischargeDepth := 9) -implicitDefEqProofs -dsimp only [go_sem, seval]; done)))))
    refine fin_eq ?_
    (repeat' (first | simp (maxDischargeDepth := 9) -implicitDefEqProofs -dsimp only [go_sem, seval, *])) <;> (repeat' refine And.intro ?_ ?_) <;> (first | omega | rfl | assumption | skip)
  by_cases o1 : t.op = 1
  · rw [if_pos o1] at hs
    by_cases hb : t.e.length = 1 ∧ t.l.length = 0
    · rw [decide_eq_true hb] at hs
      simp only [Bool.not_false, Bool.true_and] at hs
      obtain ⟨b1, b2⟩ := hb
      clear c2 c3
      repeat' (first | simp (maxDischargeDepth := 9) -implicitDefEqProofs -dsimp only [go_sem, seval, *] | (with_reducible (first | apply Zc | apply Zd | apply Zf | apply Zh | apply Zi) <;> intro hq) | ((with_reducible refine Zu ?_ ?_); focus omega) | ((with_reducible refine Zt (fun oF hoF hnF hnF' => ?_)); (try simp only [upd_none, ne_eq, not_and] at hoF)) | ((with_reducible apply ACalls.one1); (focus ((first | with_reducible refine c1 _ _ ?_ | with_reducible refine c4 _) <;> (first | (simp (maxDischargeDepth := 9) -implicitDefEqProofs -dsimp only [go_sem, seval, *]; done) | omega))); (focus (first | trivial | with_reducible exact rfl | (simp (maxDischargeDepth := 9) -implicitDefEqProofs -dsimp only [go_sem, seval]; done)))))
      refine fin_eq ?_
      (repeat' (first | simp (maxDischargeDepth := 9) -implicitDefEqProofs -dsimp only [go_sem, seval, *])) <;> (repeat' refine And.intro ?_ ?_) <;> (first | omega | rfl | assumption | skip)
    · rw [decide_eq_false hb] at hs
      simp only [Bool.not_false, Bool.true_and, Bool.false_and] at hs
      clear c2 c3
      repeat' (first | simp (maxDischargeDepth := 9) -implicitDefEqProofs -dsimp only [go_sem, seval, *] | (with_reducible (first | apply Zc | apply Zd | apply Zf | apply Zh | apply Zi) <;> intro hq) | ((with_reducible refine Zu ?_ ?_); focus omega) | ((with_reducible refine Zt (fun oF hoF hnF hnF' => ?_)); (try simp only [upd_none, ne_eq, not_and] at hoF)) | ((with_reducible apply ACalls.one1); (focus ((first | with_reducible refine c1 _ _ ?_ | with_reducible refine c4 _) <;> (first | (simp (maxDischargeDepth := 9) -implicitDefEqProofs -dsimp only [go_sem, seval, *]; done) | omega))); (focus (first | trivial | with_reducible exact rfl | (simp (maxDischargeDepth := 9) -implicitDefEqProofs -dsimp only [go_sem, seval]; done)))))
      all_goals first | (exfalso; apply hb; clear c1 c4; omega) | skip
      all_goals
        refine fin_eq ?_
        (repeat' (first | simp (maxDischargeDepth := 9) -implicitDefEqProofs -dsimp only [go_sem, seval, *])) <;> (repeat' refine And.intro ?_ ?_) <;> (first | omega | rfl | assumption | skip)
  rw [if_neg o1] at hs
  have ob1 : (t.op != 1) = true := by simp [o1]
  by_cases hz : t.sig = 0 ∧ t.hi = 0 ∧ t.lo = 0
  case neg =>
    have hv : shpT g t = false := by rw [hs, decide_eq_false hz]; simp
    clear hs c2 c3 c4
    repeat' (first | simp (maxDischargeDepth := 9) -implicitDefEqProofs -dsimp only [go_sem, seval, *] | (with_reducible (first | apply Zc | apply Zd | apply Zf | apply Zh | apply Zi) <;> intro hq) | ((with_reducible refine Zu ?_ ?_); focus omega) | ((with_reducible refine Zt (fun oF hoF hnF hnF' => ?_)); (try simp only [upd_none, ne_eq, not_and] at hoF)) | ((with_reducible apply ACalls.one1); (focus ((first | with_reducible refine c1 _ _ ?_) <;> (first | (simp (maxDischargeDepth := 9) -implicitDefEqProofs -dsimp only [go_sem, seval, *]; done) | omega))); (focus (first | trivial | with_reducible exact rfl | (simp (maxDischargeDepth := 9) -implicitDefEqProofs -dsimp only [go_sem, seval]; done)))))
    all_goals first | (exfalso; apply hz; clear c1; omega) | skip
    all_goals
      refine fin_eq ?_
      (repeat' (first | simp (maxDischargeDepth := 9) -implicitDefEqProofs -dsimp only [go_sem, seval, *])) <;> (repeat' refine And.intro ?_ ?_) <;> (first | omega | rfl | assumption | skip)
  rw [decide_eq_true hz] at hs
  simp only [Bool.not_false, Bool.true_and] at hs
  obtain ⟨z1, z2, z3⟩ := hz
  by_cases o2 : t.op = 2
  · rw [if_pos o2] at hs
    clear c3 c4
    by_cases hb : t.e.length = 1 ∧ t.l.length = 2
    · obtain ⟨b1, b2⟩ := hb
      have b3 : (0 : Int) < t.l.length := by omega
      have b4 : (1 : Int) < t.l.length := by omega
      have b5 : 0 < t.l.length := by omega
      have b6 : 1 < t.l.length := by omega
      have hall : (t.l.all fun x => decide (x.op = 5)) = (decide (t.l[0].op = 5) && decide (t.l[1].op = 5)) := by
        obtain ⟨x, y, hxy⟩ := len2 b2
        simp [hxy]
      rw [decide_eq_true ⟨b1, b2⟩, Bool.true_and, hall] at hs
      clear hall
      obtain ⟨u, hu⟩ : ∃ u, (t.l[0].op != 5) = u := ⟨_, rfl⟩
      obtain ⟨v, hv⟩ : ∃ u, (t.l[1].op != 5) = u := ⟨_, rfl⟩
      have hu2 : decide (t.l[0].op = 5) = !u := by rw [← hu, bne, Bool.not_not]; rfl
      have hv2 : decide (t.l[1].op = 5) = !v := by rw [← hv, bne, Bool.not_not]; rfl
      rw [hu2, hv2] at hs
      clear hu2 hv2
      cases u <;> cases v <;> simp only [Bool.not_false, Bool.not_true, Bool.true_and, Bool.false_and, Bool.and_false] at hs
      all_goals
        repeat' (first | simp (maxDischargeDepth := 9) -implicitDefEqProofs -dsimp only [go_sem, seval, *] | (with_reducible (first | apply Zc | apply Zd | apply Zf | apply Zh | apply Zi) <;> intro hq) | ((with_reducible refine Zu ?_ ?_); focus omega) | ((with_reducible refine Zt (fun oF hoF hnF hnF' => ?_)); (try simp only [upd_none, ne_eq, not_and] at hoF)) | ((with_reducible apply ACalls.one1); (focus ((first | with_reducible refine c1 _ _ ?_ | with_reducible refine c2 _ _ ?_) <;> (first | (simp (maxDischargeDepth := 9) -implicitDefEqProofs -dsimp only [go_sem, seval, *]; done) | omega))); (focus (first | trivial | with_reducible exact rfl | (simp (maxDischargeDepth := 9) -implicitDefEqProofs -dsimp only [go_sem, seval]; done)))))
        refine fin_eq ?_
        (repeat' (first | simp (maxDischargeDepth := 9) -implicitDefEqProofs -dsimp only [go_sem, seval, *])) <;> (repeat' refine And.intro ?_ ?_) <;> (first | omega | rfl | assumption | skip)
    · rw [decide_eq_false hb] at hs
      simp only [Bool.false_and] at hs
      repeat' (first | simp (maxDischargeDepth := 9) -implicitDefEqProofs -dsimp only [go_sem, seval, *] | (with_reducible (first | apply Zc | apply Zd | apply Zf | apply Zh | apply Zi) <;> intro hq) | ((with_reducible refine Zu ?_ ?_); focus omega) | ((with_reducible refine Zt (fun oF hoF hnF hnF' => ?_)); (try simp only [upd_none, ne_eq, not_and] at hoF)) | ((with_reducible apply ACalls.one1); (focus ((first | with_reducible refine c1 _ _ ?_ | with_reducible refine c2 _ _ ?_) <;> (first | (simp (maxDischargeDepth := 9) -implicitDefEqProofs -dsimp only [go_sem, seval, *]; done) | omega))); (focus (first | trivial | with_reducible exact rfl | (simp (maxDischargeDepth := 9) -implicitDefEqProofs -dsimp only [go_sem, seval]; done)))))
      all_goals first | (exfalso; apply hb; clear c1 c2; omega) | skip
      all_goals
        refine fin_eq ?_
        (repeat' (first | simp (maxDischargeDepth := 9) -implicitDefEqProofs -dsimp only [go_sem, seval, *])) <;> (repeat' refine And.intro ?_ ?_) <;> (first | omega | rfl | assumption | skip)
  rw [if_neg o2] at hs
  by_cases o3 : t.op = 3
  · rw [if_pos o3] at hs
    by_cases hb : t.e.length = 1
    · rw [decide_eq_true hb, Bool.true_and] at hs
      clear c2 c4
      repeat' (first | simp (maxDischargeDepth := 9) -implicitDefEqProofs -dsimp only [go_sem, seval, *] | (with_reducible (first | apply Zc | apply Zd | apply Zf | apply Zh | apply Zi) <;> intro hq) | ((with_reducible refine Zu ?_ ?_); focus omega) | ((with_reducible refine Zt (fun oF hoF hnF hnF' => ?_)); (try simp only [upd_none, ne_eq, not_and] at hoF)) | ((with_reducible apply ACalls.one1); (focus ((first | with_reducible refine c1 _ _ ?_ | with_reducible refine c3 _) <;> (first | (simp (maxDischargeDepth := 9) -implicitDefEqProofs -dsimp only [go_sem, seval, *]; done) | omega))); (focus (first | trivial | with_reducible exact rfl | (simp (maxDischargeDepth := 9) -implicitDefEqProofs -dsimp only [go_sem, seval]; done)))))
      refine fin_eq ?_
      (repeat' (first | simp (maxDischargeDepth := 9) -implicitDefEqProofs -dsimp only [go_sem, seval, *])) <;> (repeat' refine And.intro ?_ ?_) <;> (first | omega | rfl | assumption | skip)
    · rw [decide_eq_false hb, Bool.false_and] at hs
      have hb2 : ((t.e.length : Int) == 1) = false := by simp; omega
      clear c2 c4 hb
      repeat' (first | simp (maxDischargeDepth := 9) -implicitDefEqProofs -dsimp only [go_sem, seval, *] | (with_reducible (first | apply Zc | apply Zd | apply Zf | apply Zh | apply Zi) <;> intro hq) | ((with_reducible refine Zu ?_ ?_); focus omega) | ((with_reducible refine Zt (fun oF hoF hnF hnF' => ?_)); (try simp only [upd_none, ne_eq, not_and] at hoF)) | ((with_reducible apply ACalls.one1); (focus ((first | with_reducible refine c1 _ _ ?_ | with_reducible refine c3 _) <;> (first | (simp (maxDischargeDepth := 9) -implicitDefEqProofs -dsimp only [go_sem, seval, *]; done) | omega))); (focus (first | trivial | with_reducible exact rfl | (simp (maxDischargeDepth := 9) -implicitDefEqProofs -dsimp only [go_sem, seval]; done)))))
      refine fin_eq ?_
      (repeat' (first | simp (maxDischargeDepth := 9) -implicitDefEqProofs -dsimp only [go_sem, seval, *])) <;> (repeat' refine And.intro ?_ ?_) <;> (first | omega | rfl | assumption | skip)
  rw [if_neg o3] at hs
  by_cases o5 : t.op = 5
  · rw [if_pos o5] at hs
    clear c3 c4
    by_cases hb : t.e.length = 0
    · rw [decide_eq_true hb, Bool.true_and] at hs
      repeat' (first | simp (maxDischargeDepth := 9) -implicitDefEqProofs -dsimp only [go_sem, seval, gt_iff_lt, *] | (with_reducible (first | apply Zc | apply Zd | apply Zf | apply Zh | apply Zi) <;> intro hq) | ((with_reducible refine Zu ?_ ?_); focus omega) | ((with_reducible refine Zt (fun oF hoF hnF hnF' => ?_)); (try simp only [upd_none, ne_eq, not_and] at hoF)) | ((with_reducible apply ACalls.one1); (focus ((first | with_reducible refine c1 _ _ ?_ | with_reducible refine c2 _ _ ?_) <;> (first | (simp (maxDischargeDepth := 9) -implicitDefEqProofs -dsimp only [go_sem, seval, *]; done) | omega))); (focus (first | trivial | with_reducible exact rfl | (simp (maxDischargeDepth := 9) -implicitDefEqProofs -dsimp only [go_sem, seval]; done)))))
      all_goals first | (exfalso; clear c1 c2; omega) | skip
      all_goals
        refine fin_eq ?_
        (repeat' (first | simp (maxDischargeDepth := 9) -implicitDefEqProofs -dsimp only [go_sem, seval, *])) <;> (repeat' refine And.intro ?_ ?_) <;> (first | omega | rfl | assumption | skip)
    · rw [decide_eq_false hb, Bool.false_and] at hs
      repeat' (first | simp (maxDischargeDepth := 9) -implicitDefEqProofs -dsimp only [go_sem, seval, gt_iff_lt, *] | (with_reducible (first | apply Zc | apply Zd | apply Zf | apply Zh | apply Zi) <;> intro hq) | ((with_reducible refine Zu ?_ ?_); focus omega) | ((with_reducible refine Zt (fun oF hoF hnF hnF' => ?_)); (try simp only [upd_none, ne_eq, not_and] at hoF)) | ((with_reducible apply ACalls.one1); (focus ((first | with_reducible refine c1 _ _ ?_ | with_reducible refine c2 _ _ ?_) <;> (first | (simp (maxDischargeDepth := 9) -implicitDefEqProofs -dsimp only [go_sem, seval, *]; done) | omega))); (focus (first | trivial | with_reducible exact rfl | (simp (maxDischargeDepth := 9) -implicitDefEqProofs -dsimp only [go_sem, seval]; done)))))
      all_goals first | (exfalso; clear c1 c2; omega) | skip
      all_goals
        refine fin_eq ?_
        (repeat' (first | simp (maxDischargeDepth := 9) -implicitDefEqProofs -dsimp only [go_sem, seval, *])) <;> (repeat' refine And.intro ?_ ?_) <;> (first | omega | rfl | assumption | skip)
  rw [if_neg o5] at hs
  have ob2 : (t.op == 2) = false := by simp [o2]
  have ob3 : (t.op == 3) = false := by simp [o3]
  have ob5 : (t.op == 5) = false := by simp [o5]
  have ob6 : (t.op == 1) = false := by simp [o1]
  clear o1 o2 o3 o5 c2 c3 c4
  repeat' (first | simp (maxDischargeDepth := 9) -implicitDefEqProofs -dsimp only [go_sem, seval, *] | (with_reducible (first | apply Zc | apply Zd | apply Zf | apply Zh | apply Zi) <;> intro hq) | ((with_reducible refine Zu ?_ ?_); focus omega) | ((with_reducible refine Zt (fun oF hoF hnF hnF' => ?_)); (try simp only [upd_none, ne_eq, not_and] at hoF)) | ((with_reducible apply ACalls.one1); (focus ((first | with_reducible refine c1 _ _ ?_) <;> (first | (simp (maxDischargeDepth := 9) -implicitDefEqProofs -dsimp only [go_sem, seval, *]; done) | omega))); (focus (first | trivial | with_reducible exact rfl | (simp (maxDischargeDepth := 9) -implicitDefEqProofs -dsimp only [go_sem, seval]; done)))))
  refine fin_eq ?_
  (repeat' (first | simp (maxDischargeDepth := 9) -implicitDefEqProofs -dsimp only [go_sem, seval, *])) <;> (repeat' refine And.intro ?_ ?_) <;> (first | omega | rfl | assumption | skip)
theorem sz_shapeT (g : List Sg) (hg : g.length ≤ 1000000000000) (t : T) (σ : Sig) (hn : nodesT t ≤ 16777216) (hw : WfT t) :
    ACalls Try.prog 85 [.slice (g.map encS) .no, encT t] σ (fun r σ' => r = .ret (.bool (shpT g t)) ∧ σ' = σ) := by
  have key : nodesT t ≤ 16777216 → WfT t → (∀ τ, ACalls Try.prog 85 [.slice (g.map encS) .no, encT t] τ (fun r σ' => r = .ret (.bool (shpT g t)) ∧ σ' = τ)) ∧
      ∀ s ∈ t.l, ∀ τ, ACalls Try.prog 85 [.slice (g.map encS) .no, encT s] τ (fun r σ' => r = .ret (.bool (shpT g s)) ∧ σ' = τ) := by
    refine T.ind (P := fun t => nodesT t ≤ 16777216 → WfT t → (∀ τ, ACalls Try.prog 85 [.slice (g.map encS) .no, encT t] τ (fun r σ' => r = .ret (.bool (shpT g t)) ∧ σ' = τ)) ∧
      ∀ s ∈ t.l, ∀ τ, ACalls Try.prog 85 [.slice (g.map encS) .no, encT s] τ (fun r σ' => r = .ret (.bool (shpT g s)) ∧ σ' = τ)) (fun t ih hn hw => ?_) t
    have h := fun (x : T) (hx : x ∈ t.l) => ih x hx (by have := partT_nodes hx; omega) (((WfT_iff t).1 hw).2.2 x hx)
    exact ⟨fun τ => sz_shapeT_step g hg t hn hw (fun s hs τ => (h s hs).1 τ) (fun a ha s hs τ => (h a ha).2 s hs τ) τ, fun s hs τ => (h s hs).1 τ⟩
  exact (key hn hw).1 σ
theorem sz_shaped (d : Flat) (σ : Sig) (hd : Sm d) (hw : WfD d) : ACalls Try.prog 44 [encD d] σ (fun r σ' => r = .ret (.bool (shapedD d)) ∧ σ' = σ) := by
  have l1 := hd.1
  have l2 := hd.2.1
  have l3 := hd.2.2.1
  have c1 := fun τ => sz_signals d.sigs τ (by omega)
  have clo1 : ∀ (b : Nat) (τ : Sig), τ b = some (.cells (dL d)) → ∀ p ∈ d.procs, ∀ x ∈ p.l, ACalls Try.prog 84 (encT x :: [.ptr b 0]) τ (fun r σ' => r = .ret (.bool (!shpT d.sigs x)) ∧ σ' = τ) := fun b τ hb p hp x hx => by
    have hc := fun τ => sz_shapeT d.sigs (by omega) x τ (by have h := sm_pr hd hp; unfold nodesP at h; have := mem_sum (f := nodesT) hx; omega) (hw.procs p hp x hx)
    refine calls_x mixed Try.func84 b84 n84 rfl q84 (by simp) ?_; unfold c84 r84
    repeat' (first | simp (maxDischargeDepth := 9) -implicitDefEqProofs -dsimp only [go_sem, seval, *] | ((with_reducible refine Zt (fun oF hoF hnF hnF' => ?_)); (try simp only [upd_none, ne_eq, not_and] at hoF)) | ((with_reducible apply ACalls.one1); (focus ((first | with_reducible refine hc _) <;> (first | (simp (maxDischargeDepth := 9) -implicitDefEqProofs -dsimp only [go_sem, seval, *]; done) | omega))); (focus (first | trivial | with_reducible exact rfl | (simp (maxDischargeDepth := 9) -implicitDefEqProofs -dsimp only [go_sem, seval]; done)))))
    refine fin_eq ?_
    (repeat' (first | simp (maxDischargeDepth := 9) -implicitDefEqProofs -dsimp only [go_sem, seval, *])) <;> (repeat' refine And.intro ?_ ?_) <;> (first | omega | rfl | assumption | skip)
  have clo2 : ∀ (b c : Nat) (τ : Sig), τ b = some (.cells (dL d)) → τ c = some (.cells [.fn 84 [] [.ptr b 0]]) → ∀ p ∈ d.procs, ACalls Try.prog 86 (encP p :: [.ptr c 0]) τ (fun r σ' => r = .ret (.bool (p.l.any fun x => !shpT d.sigs x)) ∧ σ' = τ) := fun b c τ hb hcc p hp => by
    have hc := fun τ (hb : τ b = some (.cells (dL d))) => sl_containsT (fun x => !shpT d.sigs x) p.l (by have h := sm_pr hd hp; unfold nodesP at h; have := len_sum nodesT_pos p.l; omega) τ (clo1 b τ hb p hp)
    refine calls_x mixed Try.func86 b86 n86 rfl q86 (by simp) ?_; unfold c86 r86
    repeat' (first | simp (maxDischargeDepth := 9) -implicitDefEqProofs -dsimp only [go_sem, seval, *] | ((with_reducible refine Zt (fun oF hoF hnF hnF' => ?_)); (try simp only [upd_none, ne_eq, not_and] at hoF)) | ((with_reducible apply ACalls.one1); (focus ((first | with_reducible refine hc _ ?_) <;> (first | (simp (maxDischargeDepth := 9) -implicitDefEqProofs -dsimp only [go_sem, seval, *]; done) | omega))); (focus (first | trivial | with_reducible exact rfl | (simp (maxDischargeDepth := 9) -implicitDefEqProofs -dsimp only [go_sem, seval]; done)))))
    refine fin_eq ?_
    (repeat' (first | simp (maxDischargeDepth := 9) -implicitDefEqProofs -dsimp only [go_sem, seval, *])) <;> (repeat' refine And.intro ?_ ?_) <;> (first | omega | rfl | assumption | skip)
  have clo3 : ∀ (b : Nat) (τ : Sig), τ b = some (.cells (dL d)) → ∀ x ∈ d.chks, ACalls Try.prog 88 (encC x :: [.ptr b 0]) τ (fun r σ' => r = .ret (.bool (!shp d.sigs x.e)) ∧ σ' = τ) := fun b τ hb x hx => by
    have hc := fun τ => sz_shape d.sigs (by omega) x.e τ (sm_ck hd hx) (hw.chks x hx)
    refine calls_x mixed Try.func88 b88 n88 rfl q88 (by simp) ?_; unfold c88 r88
    repeat' (first | simp (maxDischargeDepth := 9) -implicitDefEqProofs -dsimp only [go_sem, seval, *] | ((with_reducible refine Zt (fun oF hoF hnF hnF' => ?_)); (try simp only [upd_none, ne_eq, not_and] at hoF)) | ((with_reducible apply ACalls.one1); (focus ((first | with_reducible refine hc _) <;> (first | (simp (maxDischargeDepth := 9) -implicitDefEqProofs -dsimp only [go_sem, seval, *]; done) | omega))); (focus (first | trivial | with_reducible exact rfl | (simp (maxDischargeDepth := 9) -implicitDefEqProofs -dsimp only [go_sem, seval]; done)))))
    refine fin_eq ?_
    (repeat' (first | simp (maxDischargeDepth := 9) -implicitDefEqProofs -dsimp only [go_sem, seval, *])) <;> (repeat' refine And.intro ?_ ?_) <;> (first | omega | rfl | assumption | skip)
  have c2 := fun (b c : Nat) (τ : Sig) (hb : τ b = some (.cells (dL d))) (hc : τ c = some (.cells [.fn 84 [] [.ptr b 0]])) => sl_containsP (fun p => p.l.any fun x => !shpT d.sigs x) d.procs (by omega) τ (clo2 b c τ hb hc)
  have c3 := fun (b : Nat) (τ : Sig) (hb : τ b = some (.cells (dL d))) => sl_containsC (fun x => !shp d.sigs x.e) d.chks (by omega) τ (clo3 b τ hb)
  have hs : shapedD d = (sigsOk d.sigs && !(d.procs.any fun p => p.l.any fun x => !shpT d.sigs x) && !(d.chks.any fun x => !shp d.sigs x.e)) := by
    unfold shapedD
    rw [all_any d.procs, all_any d.chks]
    congr 3
    congr 1
    funext p
    rw [all_any p.l, Bool.not_not]
  obtain ⟨A, hA⟩ : ∃ A, sigsOk d.sigs = A := ⟨_, rfl⟩
  obtain ⟨B, hB⟩ : ∃ A, (d.procs.any fun p => p.l.any fun x => !shpT d.sigs x) = A := ⟨_, rfl⟩
  obtain ⟨C, hC⟩ : ∃ A, (d.chks.any fun x => !shp d.sigs x.e) = A := ⟨_, rfl⟩
  rw [hA] at c1 hs
  rw [hB] at c2 hs
  rw [hC] at c3 hs
  clear clo1 clo2 clo3 hA hB hC hw hd
  refine calls_x mixed Try.func44 b44 n44 rfl q44 (by simp) ?_; unfold c44 r44
  cases A <;> cases B <;> simp only [Bool.not_false, Bool.not_true, Bool.true_and, Bool.false_and, Bool.and_false] at hs
  all_goals
    repeat' (first | simp (maxDischargeDepth := 9) -implicitDefEqProofs -dsimp only [go_sem, seval, *] | ((with_reducible refine Zt (fun oF hoF hnF hnF' => ?_)); (try simp only [upd_none, ne_eq, not_and] at hoF)))
    rename_i o1 ho1 nx1 nx2
    obtain ⟨o3, e3⟩ : ∃ x, x = oF := ⟨oF, rfl⟩
    subst e3
    obtain ⟨q1, q2⟩ := hoF
    have q3 : ¬ o1 = o3 := fun e => q1 e.symm
    clear nx1 nx2 hnF hnF'
    repeat' (first | simp (maxDischargeDepth := 9) -implicitDefEqProofs -dsimp only [go_sem, seval, *] | ((with_reducible refine Zt (fun oF hoF hnF hnF' => ?_)); (try simp only [upd_none, ne_eq, not_and] at hoF)) | ((with_reducible apply ACalls.one1); (focus ((first | with_reducible refine c1 _ | with_reducible refine c2 o1 o3 _ ?_ ?_ | with_reducible refine c3 o1 _ ?_) <;> (first | (simp (maxDischargeDepth := 9) -implicitDefEqProofs -dsimp only [go_sem, seval, *]; done) | omega))); (focus (first | trivial | with_reducible exact rfl | (simp (maxDischargeDepth := 9) -implicitDefEqProofs -dsimp only [go_sem, seval]; done)))))
    refine fin_eq ?_
    (repeat' (first | simp (maxDischargeDepth := 9) -implicitDefEqProofs -dsimp only [go_sem, seval, *])) <;> (repeat' refine And.intro ?_ ?_) <;> (first | omega | rfl | assumption | skip)
end Go.Proofs.Ytdiebjnjhgbklaa

namespace Go.Proofs.Ytdiebjnjhgbklaa
open Abs Fil Fil.Sz
abbrev szrC (g : List Sg) (e : Int) : AObj := .cells [.slice (g.map encS) .no, .int .i64 e]
theorem sz_expr (o : Nat) (g : List Sg) (hg : SgOk g) (e0 : Int) (x : E) (w : Int) (σ : Sig) (h : σ o = some (szrC g e0)) (hs : shp g x = true) (hn : nodes x ≤ 16777216) (hw : WfE x) (hw0 : -1 ≤ w) :
    ACalls Try.prog 50 [.ptr o 0, encE x, .int .i64 w] σ (fun r σ' => r = .ret (encE (exprS x w e0).1) ∧ σ' = upd σ o (szrC g (exprS x w e0).2)) := by
  have c1 := fun τ => sz_size g hg x w τ hs hn hw hw0
  have hv : exprS x w e0 = if e0 ≠ 0 then (zE, e0) else size x w := rfl
  have hu : upd σ o (szrC g e0) = σ := by
    funext k
    by_cases hk : k = o
    · subst hk; simp [upd, h]
    · simp [upd, hk]
  refine calls_x mixed Try.func50 b50 n50 rfl q50 (by simp) ?_; unfold c50 r50
  by_cases he : e0 = 0
  · rw [if_neg (by omega)] at hv
    obtain ⟨⟨y, f⟩, hR⟩ : ∃ R, size x w = R := ⟨_, rfl⟩
    rw [hR] at c1 hv
    rw [hv]
    clear hv hR hs hn hw hw0 hu
    subst he
    repeat' (first | simp (maxDischargeDepth := 9) -implicitDefEqProofs -dsimp only [go_sem, seval, *] | ((with_reducible refine Zt (fun oF hoF hnF hnF' => ?_)); (try simp only [upd_none, ne_eq, not_and] at hoF)) | ((with_reducible apply ACalls.one1); (focus ((first | with_reducible refine c1 _) <;> (first | (simp (maxDischargeDepth := 9) -implicitDefEqProofs -dsimp only [go_sem, seval, *]; done) | omega))); (focus (first | trivial | with_reducible exact rfl | (simp (maxDischargeDepth := 9) -implicitDefEqProofs -dsimp only [go_sem, seval]; done)))))
    refine fin_eq ?_
    (repeat' (first | simp (maxDischargeDepth := 9) -implicitDefEqProofs -dsimp only [go_sem, seval, *])) <;> (repeat' refine And.intro ?_ ?_) <;> (first | omega | rfl | assumption | skip)
  · rw [if_pos he] at hv
    rw [hv, encE_zero, hu]
    have hb : (e0 != 0) = true := by simp [he]
    clear hv hs hn hw hw0 hu c1 he
    repeat' (first | simp (maxDischargeDepth := 9) -implicitDefEqProofs -dsimp only [go_sem, seval, *] | ((with_reducible refine Zt (fun oF hoF hnF hnF' => ?_)); (try simp only [upd_none, ne_eq, not_and] at hoF)))
    refine fin_eq ?_
    (repeat' (first | simp (maxDischargeDepth := 9) -implicitDefEqProofs -dsimp only [go_sem, seval, *])) <;> (repeat' refine And.intro ?_ ?_) <;> (first | omega | rfl | assumption | skip)
end Go.Proofs.Ytdiebjnjhgbklaa

namespace Fil.Sz
open Abs
def oneG : List Sg := [⟨⟨#[97]⟩, 8, 1, 0⟩]
def oneD : Flat := ⟨oneG, [], []⟩
def sigE (hi lo : Int) : E := .mk 2 0 0 0 hi lo 0 []
def numE (v : Int) : E := .mk 1 0 v 0 0 0 0 []
def binE (op : Int) (a b : E) : E := .mk 5 0 0 0 0 0 op [a, b]
def liveX : E := .mk 5 8 0 0 0 0 14 [.mk 2 8 0 0 7 0 0 [], .mk 1 8 1 0 0 0 0 []]
theorem oneG_ok : sigsOk oneG = true := by
  rw [sigsOk_iff]
  intro j hj _
  have : j = 0 := by simp [oneG] at hj; omega
  subst this
  refine ⟨⟨?_, by simp [oneG], by simp [oneG], by simp [oneG], by simp [oneG], .inr rfl⟩, fun k hk => absurd hk (Nat.not_lt_zero _)⟩
  intro h
  have := congrArg (fun b : ByteArray => b.data.size) h
  simp [oneG, noName] at this
theorem exprD_do {d : Flat} {e x : E} {w f : Int} (h1 : sigsOk d.sigs = true) (h2 : 0 ≤ w ∧ w ≤ 64) (h3 : shp d.sigs e = true) (h4 : nodes e ≤ 65536 ∧ deep e ≤ 64) (h5 : size e w = (x, f)) : exprD d e w = (x, f) := by
  unfold exprD
  rw [if_neg (by rw [h1, h3]; simp; omega), if_neg (by omega), h5]
theorem live_a : exprD oneD (binE 14 (sigE 7 0) (numE 1)) 0 = (liveX, 0) := exprD_do oneG_ok (by omega) (by simp [shp_eq, node, place, holds, oneG, oneD, sigE, numE, binE, liveX, nodes_eq, deep_eq, maxL, size_eq, own_eq, wide, told, wants, fst0, cat0, runL, sizeK, part0, E.set, E.op, E.w, E.v, E.sig, E.hi, E.lo, E.n, E.l, zS, zE]) (by constructor <;> simp [shp_eq, node, place, holds, oneG, oneD, sigE, numE, binE, liveX, nodes_eq, deep_eq, maxL, size_eq, own_eq, wide, told, wants, fst0, cat0, runL, sizeK, part0, E.set, E.op, E.w, E.v, E.sig, E.hi, E.lo, E.n, E.l, zS, zE]) (by simp [shp_eq, node, place, holds, oneG, oneD, sigE, numE, binE, liveX, nodes_eq, deep_eq, maxL, size_eq, own_eq, wide, told, wants, fst0, cat0, runL, sizeK, part0, E.set, E.op, E.w, E.v, E.sig, E.hi, E.lo, E.n, E.l, zS, zE])
theorem live_b : exprD oneD (binE 19 (sigE 7 0) (numE 300)) 0 = (zE, 92) := exprD_do oneG_ok (by omega) (by simp [shp_eq, node, place, holds, oneG, oneD, sigE, numE, binE, liveX, nodes_eq, deep_eq, maxL, size_eq, own_eq, wide, told, wants, fst0, cat0, runL, sizeK, part0, E.set, E.op, E.w, E.v, E.sig, E.hi, E.lo, E.n, E.l, zS, zE]) (by constructor <;> simp [shp_eq, node, place, holds, oneG, oneD, sigE, numE, binE, liveX, nodes_eq, deep_eq, maxL, size_eq, own_eq, wide, told, wants, fst0, cat0, runL, sizeK, part0, E.set, E.op, E.w, E.v, E.sig, E.hi, E.lo, E.n, E.l, zS, zE]) (by simp [shp_eq, node, place, holds, oneG, oneD, sigE, numE, binE, liveX, nodes_eq, deep_eq, maxL, size_eq, own_eq, wide, told, wants, fst0, cat0, runL, sizeK, part0, E.set, E.op, E.w, E.v, E.sig, E.hi, E.lo, E.n, E.l, zS, zE])
theorem live_c : exprD oneD (binE 14 (sigE 2 0) (sigE 7 0)) 0 = (zE, 90) := exprD_do oneG_ok (by omega) (by simp [shp_eq, node, place, holds, oneG, oneD, sigE, numE, binE, liveX, nodes_eq, deep_eq, maxL, size_eq, own_eq, wide, told, wants, fst0, cat0, runL, sizeK, part0, E.set, E.op, E.w, E.v, E.sig, E.hi, E.lo, E.n, E.l, zS, zE]) (by constructor <;> simp [shp_eq, node, place, holds, oneG, oneD, sigE, numE, binE, liveX, nodes_eq, deep_eq, maxL, size_eq, own_eq, wide, told, wants, fst0, cat0, runL, sizeK, part0, E.set, E.op, E.w, E.v, E.sig, E.hi, E.lo, E.n, E.l, zS, zE]) (by simp [shp_eq, node, place, holds, oneG, oneD, sigE, numE, binE, liveX, nodes_eq, deep_eq, maxL, size_eq, own_eq, wide, told, wants, fst0, cat0, runL, sizeK, part0, E.set, E.op, E.w, E.v, E.sig, E.hi, E.lo, E.n, E.l, zS, zE])
theorem live_x : exprD oneD liveX 8 = (liveX, 0) := exprD_do oneG_ok (by omega) (by simp [shp_eq, node, place, holds, oneG, oneD, sigE, numE, binE, liveX, nodes_eq, deep_eq, maxL, size_eq, own_eq, wide, told, wants, fst0, cat0, runL, sizeK, part0, E.set, E.op, E.w, E.v, E.sig, E.hi, E.lo, E.n, E.l, zS, zE]) (by constructor <;> simp [shp_eq, node, place, holds, oneG, oneD, sigE, numE, binE, liveX, nodes_eq, deep_eq, maxL, size_eq, own_eq, wide, told, wants, fst0, cat0, runL, sizeK, part0, E.set, E.op, E.w, E.v, E.sig, E.hi, E.lo, E.n, E.l, zS, zE]) (by simp [shp_eq, node, place, holds, oneG, oneD, sigE, numE, binE, liveX, nodes_eq, deep_eq, maxL, size_eq, own_eq, wide, told, wants, fst0, cat0, runL, sizeK, part0, E.set, E.op, E.w, E.v, E.sig, E.hi, E.lo, E.n, E.l, zS, zE])
theorem live_n : exprD oneD (numE 1) 0 = (.mk 1 32 1 0 0 0 0 [], 0) := exprD_do oneG_ok (by omega) (by simp [shp_eq, node, place, holds, oneG, oneD, sigE, numE, binE, liveX, nodes_eq, deep_eq, maxL, size_eq, own_eq, wide, told, wants, fst0, cat0, runL, sizeK, part0, E.set, E.op, E.w, E.v, E.sig, E.hi, E.lo, E.n, E.l, zS, zE]) (by constructor <;> simp [shp_eq, node, place, holds, oneG, oneD, sigE, numE, binE, liveX, nodes_eq, deep_eq, maxL, size_eq, own_eq, wide, told, wants, fst0, cat0, runL, sizeK, part0, E.set, E.op, E.w, E.v, E.sig, E.hi, E.lo, E.n, E.l, zS, zE]) (by simp [shp_eq, node, place, holds, oneG, oneD, sigE, numE, binE, liveX, nodes_eq, deep_eq, maxL, size_eq, own_eq, wide, told, wants, fst0, cat0, runL, sizeK, part0, E.set, E.op, E.w, E.v, E.sig, E.hi, E.lo, E.n, E.l, zS, zE])
theorem live_d : checkE oneD liveX = 0 := by
  unfold checkE
  rw [show liveX.w = 8 from rfl, live_x]
  simp
theorem live_e : checkE oneD (numE 1) = 90 := by
  unfold checkE
  rw [show (numE 1).w = 0 from rfl, live_n]
  simp
theorem live_f : same liveX (numE 1) = false := by
  rw [same_false]; intro h; have := congrArg E.op h; simp [liveX, numE, E.op] at this
theorem one_fits : fitsD oneD = true := by
  simp [fitsD, oneD, oneG, bitsD, bitN, nodesD, deepD, maxL]
  omega
theorem one_shaped : shapedD oneD = true := by
  unfold shapedD
  rw [show oneD.sigs = oneG from rfl, oneG_ok]; rfl
theorem one_fills : fillsD oneD = true := by
  simp [fillsD, oneD, oneG, holds]
theorem one_wf : ∀ s ∈ oneG, WfS s := by
  simp [oneG, WfS, I64, U64]
end Fil.Sz

namespace Fil.Sz
open Abs
theorem size_bad {e : E} {w : Int} (h : (size e w).2 ≠ 0) : (size e w).1 = zE := by
  rw [size_eq] at h ⊢
  split
  · rfl
  rename_i q1
  rw [if_neg q1] at h
  split
  · rename_i q2
    rw [if_pos q2] at h
    split
    · rename_i q3; rw [if_pos q3] at h; simp at h
    · rfl
  · rename_i q2
    rw [if_neg q2] at h
    split
    · rfl
    · rename_i ws hws
      rw [hws] at h
      simp only [sizeK] at h ⊢
      split
      · rfl
      rename_i q3
      rw [if_neg q3] at h
      split
      · rfl
      · rename_i q4; rw [if_neg q4] at h; simp at h
end Fil.Sz

