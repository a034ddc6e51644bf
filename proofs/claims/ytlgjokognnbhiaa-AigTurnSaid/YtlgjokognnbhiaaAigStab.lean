/- What is made stays: the plain laws of layer 18 behind its operations. -/
import Derived.Test.YtlgjokognnbhiaaAigOps
set_option linter.unusedSimpArgs false
set_option linter.unusedVariables false
namespace Fil
open Abs

theorem idxF_app {α : Type} (p : α → Bool) : ∀ (l m : List α), 0 ≤ idxF p l → idxF p (l ++ m) = idxF p l
  | [], m, h => by simp [idxF] at h
  | a :: l, m, h => by
    simp only [List.cons_append, idxF] at h ⊢
    split
    · rfl
    · rename_i hp
      rw [if_neg hp] at h
      have : 0 ≤ idxF p l := by
        by_cases h' : idxF p l < 0
        · rw [if_pos h'] at h; simp at h
        · omega
      rw [idxF_app p l m this]
theorem idxF_last {α : Type} (p : α → Bool) : ∀ (l : List α) (x : α), ¬ 0 ≤ idxF p l → p x = true → idxF p (l ++ [x]) = l.length
  | [], x, _, hx => by simp [idxF, hx]
  | a :: l, x, h, hx => by
    simp only [List.cons_append, idxF] at h ⊢
    split
    · rename_i hp; rw [if_pos hp] at h; simp at h
    · rename_i hp
      rw [if_neg hp] at h
      have hn : ¬ 0 ≤ idxF p l := by
        intro h'
        have h2 : ¬ idxF p l < 0 := by omega
        rw [if_neg h2] at h; omega
      rw [idxF_last p l x hn hx]
      rw [if_neg (by omega)]
      simp

theorem find_ext {g h : Aig} (hx : Ext g h) {a b : Int} (hf : 0 ≤ g.find a b) : h.find a b = g.find a b := by
  obtain ⟨_, _, _, l, hl⟩ := hx
  unfold Aig.find at *
  rw [hl]
  exact idxF_app _ _ _ hf

theorem andO_stable {g h k : Aig} {p q x : Int} (ho : g.andO p q = some (h, x)) (hx : Ext h k) : k.andO p q = some (k, x) := by
  unfold Aig.andO at ho ⊢
  simp only at ho ⊢
  split at ho
  · rename_i c; rw [if_pos c]; simp at ho; rw [ho.2]
  · rename_i c; rw [if_neg c]
    split at ho
    · rename_i c; rw [if_pos c]; simp at ho; rw [ho.2]
    · rename_i c; rw [if_neg c]
      split at ho
      · rename_i c
        simp at ho; obtain ⟨rfl, rfl⟩ := ho
        have e := find_ext hx c
        rw [e, if_pos c, hx.first]
      · rename_i c
        split at ho
        · simp at ho
        · simp at ho; obtain ⟨rfl, rfl⟩ := ho
          have e : ({ g with ands := g.ands ++ [(min p q, max p q)] } : Aig).find (min p q) (max p q) = g.ands.length := by
            unfold Aig.find at *
            exact idxF_last _ _ _ c (by simp; omega)
          have e' := find_ext hx (a := min p q) (b := max p q) (by rw [e]; omega)
          have cf := count_first g
          have hfst : k.first = g.first := hx.first
          rw [e', e, if_pos (by omega), hfst]
          congr 2; omega

theorem andO_comm (g : Aig) (p q : Int) : g.andO p q = g.andO q p := by
  unfold Aig.andO
  rw [Int.min_comm, Int.max_comm]
theorem andW_comm (g : Aig) (e p q : Int) : g.andW e p q = g.andW e q p := by
  unfold Aig.andW
  rw [andO_comm]

theorem andW_stable {g k : Aig} {e p q : Int} (h : (g.andW e p q).2.1 = 0) (hx : Ext (g.andW e p q).1 k) : k.andW 0 p q = (k, 0, (g.andW e p q).2.2) := by
  have he := andW_err h
  subst he
  unfold Aig.andW at h hx ⊢
  simp only [ne_eq, not_true_eq_false, if_false] at h hx ⊢
  cases ho : g.andO p q with
  | none => rw [ho] at h; simp at h
  | some r =>
    rw [ho] at hx
    rw [andO_stable ho hx]
theorem orW_stable {g k : Aig} {e p q : Int} (h : (g.orW e p q).2.1 = 0) (hx : Ext (g.orW e p q).1 k) : k.orW 0 p q = (k, 0, (g.orW e p q).2.2) := by
  unfold Aig.orW at h hx ⊢
  rw [andW_stable h hx]

theorem ext_check {g h : Aig} (hs : Wf g) (hc : g.check = 0) (hx : Ext g h) (hf : Fine h) : h.check = 0 := by
  have hcn := hf.cnt
  have hlo := hf.lo
  unfold Aig.check at hc ⊢
  split at hc
  · simp at hc
  · split at hc
    · simp at hc
    · split at hc
      · rename_i h1 h2 h3
        rw [if_neg (by omega), if_neg (by rw [hx.ins, hx.outs]; omega), if_pos]
        simp only [Aig.good, Bool.and_eq_true, Bool.not_eq_true', List.any_eq_false, Bool.not_eq_true, Bool.not_eq_false'] at h3 ⊢
        refine ⟨⟨hf.gok, fun f hm => ?_⟩, fun a hm => ?_⟩
        · rw [hx.flops] at hm; exact fun hn => by have := hx.lit (by simpa using h3.1.2 f hm : g.lit f.next = true); rw [hn] at this; simp at this
        · rw [hx.outs] at hm; exact fun hn => by have := hx.lit (by simpa using h3.2 a hm : g.lit a = true); rw [hn] at this; simp at this
      · simp at hc

theorem Res.check {g : Aig} (hs : Wf g) {n : Nat} {l : List Int} {r : Aig × Int × Int} (h : Res g n l r) (h0 : r.2.2 = 0) : r.1.check = 0 ∧ Fine r.1 ∧ Ext g r.1 ∧ r.1.lit r.2.1 = true ∧ r.1.ands.length ≤ g.ands.length + n ∧ (∀ a ∈ l, g.lit a = true) ∧ g.check = 0 := by
  rcases h with ⟨_, hc, hl, hf, hx, hl', hn⟩ | ⟨h, _⟩
  · exact ⟨ext_check hs hc hx hf, hf, hx, hl', hn, hl, hc⟩
  · exact (h h0).elim

theorem Res.checkL {g : Aig} (hs : Wf g) {n : Nat} {l m : List Int} {r : Aig × Int × Int} (h : Res g n l r) (h0 : r.2.2 = 0) (hm : ∀ a ∈ m, a ∈ l) : r.1.checkL r.1.check m = 0 := by
  obtain ⟨h1, _, hx, _, _, hl, _⟩ := h.check hs h0
  exact checkL_zero.2 ⟨h1, fun a ha => hx.lit (hl a (hm a ha))⟩

theorem once_and {g : Aig} (hs : Wf g) {a b : Int} (h : (g.And a b).2.2 = 0) : (g.And a b).1.And b a = ((g.And a b).1, (g.And a b).2.1, 0) := by
  have hr := and_res hs a b
  have hc := hr.checkL hs h (m := [b, a]) (by simp)
  rw [Aig.And, hc]
  unfold Aig.And at h ⊢
  by_cases h' : (g.andW (g.checkL g.check [a, b]) a b).2.1 = 0
  · rw [endW_ok h']
    simp only
    rw [andW_comm, andW_stable h' (.refl _)]
    rfl
  · rw [endW_err h'] at h; exact (h' h).elim

theorem pairs_stable {g : Aig} {e a b c d : Int} (hf : e = 0 → Fine g ∧ g.lit a = true ∧ g.lit b = true ∧ g.lit c = true ∧ g.lit d = true) (h : (g.pairs e a b c d).2.1 = 0) :
    (g.pairs e a b c d).1.pairs 0 a b c d = ((g.pairs e a b c d).1, 0, (g.pairs e a b c d).2.2) := by
  obtain ⟨h1, h2, _⟩ := andW_ok (g := g) (e := e) (p := a) (q := b) fun h => ⟨(hf h).1, (hf h).2.1, (hf h).2.2.1⟩
  obtain ⟨k1, k2, _⟩ := andW_ok (g := (g.andW e a b).1) (e := (g.andW e a b).2.1) (p := c) (q := d) fun h => by
    obtain ⟨_, _, _, hc, hd⟩ := hf (andW_err h)
    exact ⟨(h1 h).1, h2.lit hc, h2.lit hd⟩
  obtain ⟨m1, m2⟩ := orW_ok (g := ((g.andW e a b).1.andW (g.andW e a b).2.1 c d).1) (e := ((g.andW e a b).1.andW (g.andW e a b).2.1 c d).2.1) (p := (g.andW e a b).2.2) (q := ((g.andW e a b).1.andW (g.andW e a b).2.1 c d).2.2) fun h =>
    ⟨(k1 h).1, k2.lit (h1 (andW_err h)).2, (k1 h).2⟩
  have e2 : ((g.andW e a b).1.andW (g.andW e a b).2.1 c d).2.1 = 0 := andW_err h
  have e1 : (g.andW e a b).2.1 = 0 := andW_err e2
  have s1 := andW_stable (k := (g.pairs e a b c d).1) e1 (k2.trans m2)
  have s2 := andW_stable (k := (g.pairs e a b c d).1) e2 m2
  have s3 := orW_stable (k := (g.pairs e a b c d).1) h (.refl _)
  show ((_ : Aig).andW _ _ _ |>.1.andW _ _ _ |>.1.orW _ _ _) = _
  rw [s1]
  simp only
  rw [s2]
  exact s3

theorem once_xor {g : Aig} (hs : Wf g) {a b : Int} (h : (g.Xor a b).2.2 = 0) : (g.Xor a b).1.Xor a b = ((g.Xor a b).1, (g.Xor a b).2.1, 0) := by
  have hr := xor_res hs a b
  have hc := hr.checkL hs h (m := [a, b]) (by simp)
  rw [Aig.Xor, hc]
  have hf : g.checkL g.check [a, b] = 0 → Fine g ∧ g.lit a = true ∧ g.lit (turn b) = true ∧ g.lit (turn a) = true ∧ g.lit b = true := fun h => by
    obtain ⟨h1, h2⟩ := checkL_fine hs h
    exact ⟨h1, h2 _ (by simp), turn_lit (h2 _ (by simp)), turn_lit (h2 _ (by simp)), h2 _ (by simp)⟩
  unfold Aig.Xor at h ⊢
  by_cases h' : (g.pairs (g.checkL g.check [a, b]) a (turn b) (turn a) b).2.1 = 0
  · rw [endW_ok h']
    simp only
    rw [pairs_stable hf h']
    rfl
  · rw [endW_err h'] at h; exact (h' h).elim
theorem once_mux {g : Aig} (hs : Wf g) {c a b : Int} (h : (g.Mux c a b).2.2 = 0) : (g.Mux c a b).1.Mux c a b = ((g.Mux c a b).1, (g.Mux c a b).2.1, 0) := by
  have hr := mux_res hs c a b
  have hc := hr.checkL hs h (m := [c, a, b]) (by simp)
  rw [Aig.Mux, hc]
  have hf : g.checkL g.check [c, a, b] = 0 → Fine g ∧ g.lit c = true ∧ g.lit a = true ∧ g.lit (turn c) = true ∧ g.lit b = true := fun h => by
    obtain ⟨h1, h2⟩ := checkL_fine hs h
    exact ⟨h1, h2 _ (by simp), h2 _ (by simp), turn_lit (h2 _ (by simp)), h2 _ (by simp)⟩
  unfold Aig.Mux at h ⊢
  by_cases h' : (g.pairs (g.checkL g.check [c, a, b]) c a (turn c) b).2.1 = 0
  · rw [endW_ok h']
    simp only
    rw [pairs_stable hf h']
    rfl
  · rw [endW_err h'] at h; exact (h' h).elim
end Fil
