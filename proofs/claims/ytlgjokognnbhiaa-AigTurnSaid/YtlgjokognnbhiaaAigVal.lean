/- What gates mean. -/
import Derived.Test.YtlgjokognnbhiaaAigStab
set_option linter.unusedSimpArgs false
set_option linter.unusedVariables false
namespace Fil
open Abs

theorem vals_prefix : ∀ (l : List (Int × Int)) (v : List Bool), ∃ m, Aig.vals v l = v ++ m
  | [], v => ⟨[], by simp [Aig.vals]⟩
  | x :: l, v => by
    obtain ⟨m, hm⟩ := vals_prefix l (v ++ [Aig.val v x.1 && Aig.val v x.2])
    exact ⟨_ :: m, by rw [Aig.vals, hm, List.append_assoc]; rfl⟩
theorem val_app {v m : List Bool} {a : Int} (h : (a / 2).toNat < v.length) : Aig.val (v ++ m) a = Aig.val v a := by
  unfold Aig.val
  rw [List.getD_eq_getElem?_getD, List.getD_eq_getElem?_getD, List.getElem?_append_left h]
theorem val_turn {v : List Bool} {a : Int} (h : 0 ≤ a) : Aig.val v (turn a) = !Aig.val v a := by
  unfold Aig.val
  have e : (turn a / 2).toNat = (a / 2).toNat := by unfold turn; omega
  rw [e]
  by_cases h1 : a % 2 = 1
  · have h2 : ¬ turn a % 2 = 1 := by unfold turn; omega
    cases v.getD (a / 2).toNat false <;> simp [h1, h2]
  · have h2 : turn a % 2 = 1 := by unfold turn; omega
    cases v.getD (a / 2).toNat false <;> simp [h1, h2]

section
variable {s : List Bool}

theorem V_length {g : Aig} (hf : Fine g) (hb : ((s.length + 1 : Nat) : Int) = g.first) : ((Aig.vals (false :: s) g.ands).length : Int) = 1 + g.count := by
  rw [vals_length, count_first, List.length_cons]; omega
theorem V_ext {g h : Aig} (hx : Ext g h) : ∃ m, Aig.vals (false :: s) h.ands = Aig.vals (false :: s) g.ands ++ m := by
  obtain ⟨_, _, _, l, e⟩ := hx
  rw [e, vals_append]
  exact vals_prefix _ _
theorem val_ext {g h : Aig} (hf : Fine g) (hb : ((s.length + 1 : Nat) : Int) = g.first) (hx : Ext g h) {a : Int} (ha : g.lit a = true) : Aig.val (Aig.vals (false :: s) h.ands) a = Aig.val (Aig.vals (false :: s) g.ands) a := by
  obtain ⟨m, e⟩ := V_ext (s := s) hx
  rw [e, val_app]
  have := V_length hf hb
  have := litN_iff.1 ha
  omega
theorem val_zero {g : Aig} : Aig.val (Aig.vals (false :: s) g.ands) 0 = false := by
  obtain ⟨m, e⟩ := vals_prefix g.ands (false :: s)
  rw [e]; rfl
theorem val_one {g : Aig} : Aig.val (Aig.vals (false :: s) g.ands) 1 = true := by
  obtain ⟨m, e⟩ := vals_prefix g.ands (false :: s)
  rw [e]; rfl

theorem idxF_get {α : Type} (p : α → Bool) : ∀ (l : List α), 0 ≤ idxF p l → ∃ h : (idxF p l).toNat < l.length, p l[(idxF p l).toNat] = true
  | [], h => by simp [idxF] at h
  | a :: l, h => by
    by_cases hp : p a = true
    · have e : idxF p (a :: l) = 0 := by simp [idxF, hp]
      simp [e, hp]
    · by_cases h' : idxF p l < 0
      · have e : idxF p (a :: l) = -1 := by simp [idxF, hp, h']
        omega
      · have e : idxF p (a :: l) = idxF p l + 1 := by simp [idxF, hp, h']
        obtain ⟨k, hk⟩ := idxF_get p l (by omega)
        have e2 : (idxF p (a :: l)).toNat = (idxF p l).toNat + 1 := by omega
        have k2 : (idxF p (a :: l)).toNat < (a :: l).length := by rw [e2, List.length_cons]; omega
        refine ⟨k2, ?_⟩
        simp only [e2, List.getElem_cons_succ]
        exact hk

theorem gate_val {g : Aig} (hf : Fine g) (hb : ((s.length + 1 : Nat) : Int) = g.first) {i : Nat} (hi : i < g.ands.length) :
    Aig.val (Aig.vals (false :: s) g.ands) (2 * (g.first + i)) = (Aig.val (Aig.vals (false :: s) g.ands) g.ands[i].1 && Aig.val (Aig.vals (false :: s) g.ands) g.ands[i].2) := by
  have hg := gatesOk_iff.1 hf.gok i hi
  have st := vals_step (v := false :: s) hi
  have ln := vals_len (v := false :: s) (l := g.ands) (i := i) (by omega)
  have sp : g.ands = g.ands.take (i + 1) ++ g.ands.drop (i + 1) := (List.take_append_drop _ _).symm
  have sp' : g.ands = g.ands.take i ++ g.ands.drop i := (List.take_append_drop _ _).symm
  obtain ⟨m, e⟩ := vals_prefix (g.ands.drop (i + 1)) (Aig.vals (false :: s) (g.ands.take (i + 1)))
  obtain ⟨m', e'⟩ := vals_prefix (g.ands.drop i) (Aig.vals (false :: s) (g.ands.take i))
  rw [← vals_append, ← sp, st] at e
  rw [← vals_append, ← sp'] at e'
  rw [List.length_cons] at ln
  have a1 : (g.ands[i].1 / 2).toNat < (Aig.vals (false :: s) (g.ands.take i)).length := by omega
  have a2 : (g.ands[i].2 / 2).toNat < (Aig.vals (false :: s) (g.ands.take i)).length := by omega
  have q1 : Aig.val (Aig.vals (false :: s) g.ands) g.ands[i].1 = Aig.val (Aig.vals (false :: s) (g.ands.take i)) g.ands[i].1 := by rw [e', val_app a1]
  have q2 : Aig.val (Aig.vals (false :: s) g.ands) g.ands[i].2 = Aig.val (Aig.vals (false :: s) (g.ands.take i)) g.ands[i].2 := by rw [e', val_app a2]
  rw [q1, q2, e]
  have ix : (2 * (g.first + i) / 2).toNat = (Aig.vals (false :: s) (g.ands.take i)).length := by omega
  have od : ¬ (2 * (g.first + (i : Int))) % 2 = 1 := by omega
  unfold Aig.val
  rw [ix, List.getD_eq_getElem?_getD, List.append_assoc, List.getElem?_append_right (Nat.le_refl _)]
  simp [od]

theorem min_max_val {v : List Bool} {p q : Int} : (Aig.val v (min p q) && Aig.val v (max p q)) = (Aig.val v p && Aig.val v q) := by
  rcases Int.le_total p q with h | h
  · rw [Int.min_eq_left h, Int.max_eq_right h]
  · rw [Int.min_eq_right h, Int.max_eq_left h, Bool.and_comm]

theorem andO_val {g h : Aig} {p q x : Int} (hf : Fine g) (hb : ((s.length + 1 : Nat) : Int) = g.first) (hp : g.lit p = true) (hq : g.lit q = true) (ho : g.andO p q = some (h, x)) :
    Aig.val (Aig.vals (false :: s) h.ands) x = (Aig.val (Aig.vals (false :: s) g.ands) p && Aig.val (Aig.vals (false :: s) g.ands) q) := by
  have hp' := litN_iff.1 hp
  have hq' := litN_iff.1 hq
  rw [← min_max_val]
  unfold Aig.andO at ho
  simp only at ho
  split at ho
  · rename_i c
    simp at ho; obtain ⟨rfl, rfl⟩ := ho
    rw [val_zero]
    rcases c with c | c
    · rw [c, val_zero]; rfl
    · rw [c, val_turn (by omega)]; cases Aig.val (Aig.vals (false :: s) g.ands) (max p q) <;> rfl
  · split at ho
    · rename_i c
      simp at ho; obtain ⟨rfl, rfl⟩ := ho
      rcases c with c | c
      · rw [c, val_one, Bool.true_and]
      · rw [c, Bool.and_self]
    · split at ho
      · rename_i c
        simp at ho; obtain ⟨rfl, rfl⟩ := ho
        obtain ⟨k, hk⟩ := idxF_get _ _ c
        have e := gate_val (s := s) hf hb k
        have e2 : (((g.find (min p q) (max p q)).toNat : Nat) : Int) = g.find (min p q) (max p q) := by omega
        have e4 : (((idxF (fun x : Int × Int => decide (min x.1 x.2 = min p q) && decide (max x.1 x.2 = max p q)) g.ands).toNat : Nat) : Int) = g.find (min p q) (max p q) := e2
        rw [e4] at e
        rw [e, ← min_max_val]
        simp only [Bool.and_eq_true, decide_eq_true_eq] at hk
        rw [hk.1, hk.2]
      · split at ho
        · simp at ho
        · simp at ho; obtain ⟨rfl, rfl⟩ := ho
          have ln := V_length (s := s) hf hb
          have ix : (2 * (g.count + 1) / 2).toNat = (Aig.vals (false :: s) g.ands).length := by omega
          have od : ¬ (2 * (g.count + 1)) % 2 = 1 := by omega
          simp only [vals_snoc]
          generalize hv : (Aig.val (Aig.vals (false :: s) g.ands) (min p q) && Aig.val (Aig.vals (false :: s) g.ands) (max p q)) = w
          unfold Aig.val
          rw [ix, List.getD_eq_getElem?_getD, List.getElem?_append_right (Nat.le_refl _)]
          simp [od]

theorem andW_val {g : Aig} {e p q : Int} (hf : e = 0 → Fine g ∧ g.lit p = true ∧ g.lit q = true) (hb : ((s.length + 1 : Nat) : Int) = g.first) (h : (g.andW e p q).2.1 = 0) :
    Aig.val (Aig.vals (false :: s) (g.andW e p q).1.ands) (g.andW e p q).2.2 = (Aig.val (Aig.vals (false :: s) g.ands) p && Aig.val (Aig.vals (false :: s) g.ands) q) := by
  have he := andW_err h
  obtain ⟨h1, h2, h3⟩ := hf he
  subst he
  unfold Aig.andW at h ⊢
  simp only [ne_eq, not_true_eq_false, if_false] at h ⊢
  cases ho : g.andO p q with
  | none => rw [ho] at h; simp at h
  | some r => exact andO_val h1 hb h2 h3 ho

theorem orW_val {g : Aig} {e p q : Int} (hf : e = 0 → Fine g ∧ g.lit p = true ∧ g.lit q = true) (hb : ((s.length + 1 : Nat) : Int) = g.first) (h : (g.orW e p q).2.1 = 0) :
    Aig.val (Aig.vals (false :: s) (g.orW e p q).1.ands) (g.orW e p q).2.2 = (Aig.val (Aig.vals (false :: s) g.ands) p || Aig.val (Aig.vals (false :: s) g.ands) q) := by
  have he : e = 0 := andW_err h
  have hf' : e = 0 → Fine g ∧ g.lit (turn p) = true ∧ g.lit (turn q) = true := fun he => ⟨(hf he).1, turn_lit (hf he).2.1, turn_lit (hf he).2.2⟩
  have k := andW_val (s := s) hf' hb h
  have ok := (andW_ok hf').2.2.1
  show Aig.val _ (turn _) = _
  rw [val_turn ok]
  obtain ⟨_, h2, h3⟩ := hf he
  have k' : Aig.val (Aig.vals (false :: s) (g.orW e p q).1.ands) (g.andW e (turn p) (turn q)).2.2 = _ := k
  rw [k', val_turn (litN_iff.1 h2).1, val_turn (litN_iff.1 h3).1]
  cases Aig.val (Aig.vals (false :: s) g.ands) p <;> cases Aig.val (Aig.vals (false :: s) g.ands) q <;> rfl

theorem pairs_val {g : Aig} {e a b c d : Int} (hf : e = 0 → Fine g ∧ g.lit a = true ∧ g.lit b = true ∧ g.lit c = true ∧ g.lit d = true) (hb : ((s.length + 1 : Nat) : Int) = g.first) (h : (g.pairs e a b c d).2.1 = 0) :
    Aig.val (Aig.vals (false :: s) (g.pairs e a b c d).1.ands) (g.pairs e a b c d).2.2 = ((Aig.val (Aig.vals (false :: s) g.ands) a && Aig.val (Aig.vals (false :: s) g.ands) b) || (Aig.val (Aig.vals (false :: s) g.ands) c && Aig.val (Aig.vals (false :: s) g.ands) d)) := by
  have f1 : e = 0 → Fine g ∧ g.lit a = true ∧ g.lit b = true := fun h => ⟨(hf h).1, (hf h).2.1, (hf h).2.2.1⟩
  obtain ⟨h1, h2, _⟩ := andW_ok f1
  have f2 : (g.andW e a b).2.1 = 0 → Fine (g.andW e a b).1 ∧ (g.andW e a b).1.lit c = true ∧ (g.andW e a b).1.lit d = true := fun h => by
    obtain ⟨_, _, _, hc, hd⟩ := hf (andW_err h)
    exact ⟨(h1 h).1, h2.lit hc, h2.lit hd⟩
  obtain ⟨k1, k2, _⟩ := andW_ok f2
  have f3 : ((g.andW e a b).1.andW (g.andW e a b).2.1 c d).2.1 = 0 → Fine ((g.andW e a b).1.andW (g.andW e a b).2.1 c d).1 ∧ ((g.andW e a b).1.andW (g.andW e a b).2.1 c d).1.lit (g.andW e a b).2.2 = true ∧ ((g.andW e a b).1.andW (g.andW e a b).2.1 c d).1.lit ((g.andW e a b).1.andW (g.andW e a b).2.1 c d).2.2 = true := fun h =>
    ⟨(k1 h).1, k2.lit (h1 (andW_err h)).2, (k1 h).2⟩
  have e2 : ((g.andW e a b).1.andW (g.andW e a b).2.1 c d).2.1 = 0 := andW_err h
  have e1 : (g.andW e a b).2.1 = 0 := andW_err e2
  have v1 := andW_val (s := s) f1 hb e1
  have v2 := andW_val (s := s) f2 (by rw [h2.first]; exact hb) e2
  have v3 := orW_val (s := s) f3 (by rw [k2.first, h2.first]; exact hb) h
  obtain ⟨hg, _, _, hc, hd⟩ := hf (andW_err e1)
  have x1 := val_ext (s := s) (h1 e1).1 (by rw [h2.first]; exact hb) k2 (h1 e1).2
  have x2 := val_ext (s := s) hg hb h2 hc
  have x3 := val_ext (s := s) hg hb h2 hd
  rw [x1, v1, v2, x2, x3] at v3
  exact v3
end

theorem nodes_eq {g : Aig} (hc : g.check = 0) {inp st : List Bool} (h1 : (inp.length : Int) = g.ins) (h2 : st.length = g.flops.length) : g.Nodes inp st = (Aig.vals (false :: (inp ++ st)) g.ands, 0) := by
  unfold Aig.Nodes
  rw [if_neg (by simp [hc]), if_neg (by simp [h1, h2])]

/-- A literal's value in gates. -/
def Aig.value (g : Aig) (a : Int) (inp st : List Bool) : Bool := Aig.val (Aig.vals (false :: (inp ++ st)) g.ands) a

section
variable {g : Aig} {a b c : Int} {inp st : List Bool} (hs : Wf g) (l1 : (inp.length : Int) = g.ins) (l2 : st.length = g.flops.length)
include hs l1 l2
theorem and_val (h : (g.And a b).2.2 = 0) : (g.And a b).1.value (g.And a b).2.1 inp st = (g.value a inp st && g.value b inp st) := by
  have hb : (((inp ++ st).length + 1 : Nat) : Int) = g.first := by rw [List.length_append]; unfold Aig.first; omega
  unfold Aig.And at h ⊢
  by_cases h' : (g.andW (g.checkL g.check [a, b]) a b).2.1 = 0
  · rw [endW_ok h']
    exact andW_val (fun h => ⟨(checkL_fine hs h).1, (checkL_fine hs h).2 _ (by simp), (checkL_fine hs h).2 _ (by simp)⟩) hb h'
  · rw [endW_err h'] at h; exact (h' h).elim
theorem or_val (h : (g.Or a b).2.2 = 0) : (g.Or a b).1.value (g.Or a b).2.1 inp st = (g.value a inp st || g.value b inp st) := by
  have hb : (((inp ++ st).length + 1 : Nat) : Int) = g.first := by rw [List.length_append]; unfold Aig.first; omega
  unfold Aig.Or at h ⊢
  by_cases h' : (g.orW (g.checkL g.check [a, b]) a b).2.1 = 0
  · rw [endW_ok h']
    exact orW_val (fun h => ⟨(checkL_fine hs h).1, (checkL_fine hs h).2 _ (by simp), (checkL_fine hs h).2 _ (by simp)⟩) hb h'
  · rw [endW_err h'] at h; exact (h' h).elim
theorem xor_val (h : (g.Xor a b).2.2 = 0) : (g.Xor a b).1.value (g.Xor a b).2.1 inp st = (g.value a inp st != g.value b inp st) := by
  have hb : (((inp ++ st).length + 1 : Nat) : Int) = g.first := by rw [List.length_append]; unfold Aig.first; omega
  have hl := (xor_res hs a b).check hs h
  have pa := (litN_iff.1 (hl.2.2.2.2.2.1 a (by simp))).1
  have pb := (litN_iff.1 (hl.2.2.2.2.2.1 b (by simp))).1
  unfold Aig.Xor at h ⊢
  by_cases h' : (g.pairs (g.checkL g.check [a, b]) a (turn b) (turn a) b).2.1 = 0
  · rw [endW_ok h']
    have := pairs_val (s := inp ++ st) (fun h => ⟨(checkL_fine hs h).1, (checkL_fine hs h).2 _ (by simp), turn_lit ((checkL_fine hs h).2 _ (by simp)), turn_lit ((checkL_fine hs h).2 _ (by simp)), (checkL_fine hs h).2 _ (by simp)⟩) hb h'
    rw [val_turn pa, val_turn pb] at this
    refine this.trans ?_
    unfold Aig.value
    cases Aig.val (Aig.vals (false :: (inp ++ st)) g.ands) a <;> cases Aig.val (Aig.vals (false :: (inp ++ st)) g.ands) b <;> rfl
  · rw [endW_err h'] at h; exact (h' h).elim
theorem mux_val (h : (g.Mux c a b).2.2 = 0) : (g.Mux c a b).1.value (g.Mux c a b).2.1 inp st = if g.value c inp st then g.value a inp st else g.value b inp st := by
  have hb : (((inp ++ st).length + 1 : Nat) : Int) = g.first := by rw [List.length_append]; unfold Aig.first; omega
  have hl := (mux_res hs c a b).check hs h
  have pc := (litN_iff.1 (hl.2.2.2.2.2.1 c (by simp))).1
  unfold Aig.Mux at h ⊢
  by_cases h' : (g.pairs (g.checkL g.check [c, a, b]) c a (turn c) b).2.1 = 0
  · rw [endW_ok h']
    have := pairs_val (s := inp ++ st) (fun h => ⟨(checkL_fine hs h).1, (checkL_fine hs h).2 _ (by simp), (checkL_fine hs h).2 _ (by simp), turn_lit ((checkL_fine hs h).2 _ (by simp)), (checkL_fine hs h).2 _ (by simp)⟩) hb h'
    rw [val_turn pc] at this
    refine this.trans ?_
    unfold Aig.value
    cases Aig.val (Aig.vals (false :: (inp ++ st)) g.ands) c <;> simp
  · rw [endW_err h'] at h; exact (h' h).elim
end

theorem or_turn {g : Aig} (hs : Wf g) {a b : Int} (h1 : (g.Or a b).2.2 = 0) (h2 : (g.And (turn a) (turn b)).2.2 = 0) : (g.Or a b).1 = (g.And (turn a) (turn b)).1 ∧ (g.Or a b).2.1 = turn (g.And (turn a) (turn b)).2.1 := by
  have r1 := (or_res hs a b).check hs h1
  have r2 := (and_res hs (turn a) (turn b)).check hs h2
  have c1 : g.checkL g.check [a, b] = 0 := checkL_zero.2 ⟨r1.2.2.2.2.2.2, r1.2.2.2.2.2.1⟩
  have c2 : g.checkL g.check [turn a, turn b] = 0 := checkL_zero.2 ⟨r2.2.2.2.2.2.2, r2.2.2.2.2.2.1⟩
  unfold Aig.Or Aig.And at *
  rw [c1] at h1 ⊢
  rw [c2] at h2 ⊢
  by_cases h' : (g.andW 0 (turn a) (turn b)).2.1 = 0
  · rw [endW_ok h', endW_or h']
    exact ⟨rfl, rfl⟩
  · rw [endW_err h'] at h2; exact (h' h2).elim
end Fil
