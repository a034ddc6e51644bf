/- equiv: contracts of each of a list, of Forks. -/
import Derived.Test.YtjichkelfhcbcaaAigOps
set_option linter.unusedSimpArgs false
set_option linter.unusedVariables false
namespace Fil
open Abs
theorem ext_check {g h : Aig} (hs : Wf g) (hc : g.check = 0) (hx : Ext g h) (hf : Fine h) : h.check = 0 := by
  have hcn := hf.cnt
  have hlo := hf.lo
  unfold Aig.check at hc ⊢
  split at hc
  · simp at hc
  · split at hc
    · simp at hc
    · split at hc
      · rename_i h1 h2 h3
        rw [if_neg (by omega), if_neg (by rw [hx.ins, hx.outs]; omega), if_pos]
        simp only [Aig.good, Bool.and_eq_true, Bool.not_eq_true', List.any_eq_false, Bool.not_eq_true, Bool.not_eq_false'] at h3 ⊢
        refine ⟨⟨hf.gok, fun f hm => ?_⟩, fun a hm => ?_⟩
        · rw [hx.flops] at hm; exact fun hn => by have := hx.lit (by simpa using h3.1.2 f hm : g.lit f.next = true); rw [hn] at this; simp at this
        · rw [hx.outs] at hm; exact fun hn => by have := hx.lit (by simpa using h3.2 a hm : g.lit a = true); rw [hn] at this; simp at this
      · simp at hc
theorem Res.check {g : Aig} (hs : Wf g) {n : Nat} {l : List Int} {r : Aig × Int × Int} (h : Res g n l r) (h0 : r.2.2 = 0) : r.1.check = 0 ∧ Fine r.1 ∧ Ext g r.1 ∧ r.1.lit r.2.1 = true ∧ r.1.ands.length ≤ g.ands.length + n ∧ (∀ a ∈ l, g.lit a = true) ∧ g.check = 0 := by
  rcases h with ⟨_, hc, hl, hf, hx, hl', hn⟩ | ⟨h, _⟩
  · exact ⟨ext_check hs hc hx hf, hf, hx, hl', hn, hl, hc⟩
  · exact (h h0).elim
theorem Res.checkL {g : Aig} (hs : Wf g) {n : Nat} {l m : List Int} {r : Aig × Int × Int} (h : Res g n l r) (h0 : r.2.2 = 0) (hm : ∀ a ∈ m, a ∈ l) : r.1.checkL r.1.check m = 0 := by
  obtain ⟨h1, _, hx, _, _, hl, _⟩ := h.check hs h0
  exact checkL_zero.2 ⟨h1, fun a ha => hx.lit (hl a (hm a ha))⟩
end Fil

namespace Fil
open Abs
theorem vals_prefix : ∀ (l : List (Int × Int)) (v : List Bool), ∃ m, Aig.vals v l = v ++ m
  | [], v => ⟨[], by simp [Aig.vals]⟩
  | x :: l, v => by
    obtain ⟨m, hm⟩ := vals_prefix l (v ++ [Aig.val v x.1 && Aig.val v x.2])
    exact ⟨_ :: m, by rw [Aig.vals, hm, List.append_assoc]; rfl⟩
theorem val_app {v m : List Bool} {a : Int} (h : (a / 2).toNat < v.length) : Aig.val (v ++ m) a = Aig.val v a := by
  unfold Aig.val
  rw [List.getD_eq_getElem?_getD, List.getD_eq_getElem?_getD, List.getElem?_append_left h]
theorem val_turn {v : List Bool} {a : Int} (h : 0 ≤ a) : Aig.val v (turn a) = !Aig.val v a := by
  unfold Aig.val
  have e : (turn a / 2).toNat = (a / 2).toNat := by unfold turn; omega
  rw [e]
  by_cases h1 : a % 2 = 1
  · have h2 : ¬ turn a % 2 = 1 := by unfold turn; omega
    cases v.getD (a / 2).toNat false <;> simp [h1, h2]
  · have h2 : turn a % 2 = 1 := by unfold turn; omega
    cases v.getD (a / 2).toNat false <;> simp [h1, h2]
section
variable {s : List Bool}
theorem V_length {g : Aig} (hf : Fine g) (hb : ((s.length + 1 : Nat) : Int) = g.first) : ((Aig.vals (false :: s) g.ands).length : Int) = 1 + g.count := by
  rw [vals_length, count_first, List.length_cons]; omega
theorem V_ext {g h : Aig} (hx : Ext g h) : ∃ m, Aig.vals (false :: s) h.ands = Aig.vals (false :: s) g.ands ++ m := by
  obtain ⟨_, _, _, l, e⟩ := hx
  rw [e, vals_append]
  exact vals_prefix _ _
theorem val_ext {g h : Aig} (hf : Fine g) (hb : ((s.length + 1 : Nat) : Int) = g.first) (hx : Ext g h) {a : Int} (ha : g.lit a = true) : Aig.val (Aig.vals (false :: s) h.ands) a = Aig.val (Aig.vals (false :: s) g.ands) a := by
  obtain ⟨m, e⟩ := V_ext (s := s) hx
  rw [e, val_app]
  have := V_length hf hb
  have := litN_iff.1 ha
  omega
theorem val_zero {g : Aig} : Aig.val (Aig.vals (false :: s) g.ands) 0 = false := by
  obtain ⟨m, e⟩ := vals_prefix g.ands (false :: s)
  rw [e]; rfl
theorem val_one {g : Aig} : Aig.val (Aig.vals (false :: s) g.ands) 1 = true := by
  obtain ⟨m, e⟩ := vals_prefix g.ands (false :: s)
  rw [e]; rfl
theorem idxF_get {α : Type} (p : α → Bool) : ∀ (l : List α), 0 ≤ idxF p l → ∃ h : (idxF p l).toNat < l.length, p l[(idxF p l).toNat] = true
  | [], h => by simp [idxF] at h
  | a :: l, h => by
    by_cases hp : p a = true
    · have e : idxF p (a :: l) = 0 := by simp [idxF, hp]
      simp [e, hp]
    · by_cases h' : idxF p l < 0
      · have e : idxF p (a :: l) = -1 := by simp [idxF, hp, h']
        omega
      · have e : idxF p (a :: l) = idxF p l + 1 := by simp [idxF, hp, h']
        obtain ⟨k, hk⟩ := idxF_get p l (by omega)
        have e2 : (idxF p (a :: l)).toNat = (idxF p l).toNat + 1 := by omega
        have k2 : (idxF p (a :: l)).toNat < (a :: l).length := by rw [e2, List.length_cons]; omega
        refine ⟨k2, ?_⟩
        simp only [e2, List.getElem_cons_succ]
        exact hk
theorem gate_val {g : Aig} (hf : Fine g) (hb : ((s.length + 1 : Nat) : Int) = g.first) {i : Nat} (hi : i < g.ands.length) :
    Aig.val (Aig.vals (false :: s) g.ands) (2 * (g.first + i)) = (Aig.val (Aig.vals (false :: s) g.ands) g.ands[i].1 && Aig.val (Aig.vals (false :: s) g.ands) g.ands[i].2) := by
  have hg := gatesOk_iff.1 hf.gok i hi
  have st := vals_step (v := false :: s) hi
  have ln := vals_len (v := false :: s) (l := g.ands) (i := i) (by omega)
  have sp : g.ands = g.ands.take (i + 1) ++ g.ands.drop (i + 1) := (List.take_append_drop _ _).symm
  have sp' : g.ands = g.ands.take i ++ g.ands.drop i := (List.take_append_drop _ _).symm
  obtain ⟨m, e⟩ := vals_prefix (g.ands.drop (i + 1)) (Aig.vals (false :: s) (g.ands.take (i + 1)))
  obtain ⟨m', e'⟩ := vals_prefix (g.ands.drop i) (Aig.vals (false :: s) (g.ands.take i))
  rw [← vals_append, ← sp, st] at e
  rw [← vals_append, ← sp'] at e'
  rw [List.length_cons] at ln
  have a1 : (g.ands[i].1 / 2).toNat < (Aig.vals (false :: s) (g.ands.take i)).length := by omega
  have a2 : (g.ands[i].2 / 2).toNat < (Aig.vals (false :: s) (g.ands.take i)).length := by omega
  have q1 : Aig.val (Aig.vals (false :: s) g.ands) g.ands[i].1 = Aig.val (Aig.vals (false :: s) (g.ands.take i)) g.ands[i].1 := by rw [e', val_app a1]
  have q2 : Aig.val (Aig.vals (false :: s) g.ands) g.ands[i].2 = Aig.val (Aig.vals (false :: s) (g.ands.take i)) g.ands[i].2 := by rw [e', val_app a2]
  rw [q1, q2, e]
  have ix : (2 * (g.first + i) / 2).toNat = (Aig.vals (false :: s) (g.ands.take i)).length := by omega
  have od : ¬ (2 * (g.first + (i : Int))) % 2 = 1 := by omega
  unfold Aig.val
  rw [ix, List.getD_eq_getElem?_getD, List.append_assoc, List.getElem?_append_right (Nat.le_refl _)]
  simp [od]
theorem min_max_val {v : List Bool} {p q : Int} : (Aig.val v (min p q) && Aig.val v (max p q)) = (Aig.val v p && Aig.val v q) := by
  rcases Int.le_total p q with h | h
  · rw [Int.min_eq_left h, Int.max_eq_right h]
  · rw [Int.min_eq_right h, Int.max_eq_left h, Bool.and_comm]
theorem andO_val {g h : Aig} {p q x : Int} (hf : Fine g) (hb : ((s.length + 1 : Nat) : Int) = g.first) (hp : g.lit p = true) (hq : g.lit q = true) (ho : g.andO p q = some (h, x)) :
    Aig.val (Aig.vals (false :: s) h.ands) x = (Aig.val (Aig.vals (false :: s) g.ands) p && Aig.val (Aig.vals (false :: s) g.ands) q) := by
  have hp' := litN_iff.1 hp
  have hq' := litN_iff.1 hq
  rw [← min_max_val]
  unfold Aig.andO at ho
  simp only at ho
  split at ho
  · rename_i c
    simp at ho; obtain ⟨rfl, rfl⟩ := ho
    rw [val_zero]
    rcases c with c | c
    · rw [c, val_zero]; rfl
    · rw [c, val_turn (by omega)]; cases Aig.val (Aig.vals (false :: s) g.ands) (max p q) <;> rfl
  · split at ho
    · rename_i c
      simp at ho; obtain ⟨rfl, rfl⟩ := ho
      rcases c with c | c
      · rw [c, val_one, Bool.true_and]
      · rw [c, Bool.and_self]
    · split at ho
      · rename_i c
        simp at ho; obtain ⟨rfl, rfl⟩ := ho
        obtain ⟨k, hk⟩ := idxF_get _ _ c
        have e := gate_val (s := s) hf hb k
        have e2 : (((g.find (min p q) (max p q)).toNat : Nat) : Int) = g.find (min p q) (max p q) := by omega
        have e4 : (((idxF (fun x : Int × Int => decide (min x.1 x.2 = min p q) && decide (max x.1 x.2 = max p q)) g.ands).toNat : Nat) : Int) = g.find (min p q) (max p q) := e2
        rw [e4] at e
        rw [e, ← min_max_val]
        simp only [Bool.and_eq_true, decide_eq_true_eq] at hk
        rw [hk.1, hk.2]
      · split at ho
        · simp at ho
        · simp at ho; obtain ⟨rfl, rfl⟩ := ho
          have ln := V_length (s := s) hf hb
          have ix : (2 * (g.count + 1) / 2).toNat = (Aig.vals (false :: s) g.ands).length := by omega
          have od : ¬ (2 * (g.count + 1)) % 2 = 1 := by omega
          simp only [vals_snoc]
          generalize hv : (Aig.val (Aig.vals (false :: s) g.ands) (min p q) && Aig.val (Aig.vals (false :: s) g.ands) (max p q)) = w
          unfold Aig.val
          rw [ix, List.getD_eq_getElem?_getD, List.getElem?_append_right (Nat.le_refl _)]
          simp [od]
theorem andW_val {g : Aig} {e p q : Int} (hf : e = 0 → Fine g ∧ g.lit p = true ∧ g.lit q = true) (hb : ((s.length + 1 : Nat) : Int) = g.first) (h : (g.andW e p q).2.1 = 0) :
    Aig.val (Aig.vals (false :: s) (g.andW e p q).1.ands) (g.andW e p q).2.2 = (Aig.val (Aig.vals (false :: s) g.ands) p && Aig.val (Aig.vals (false :: s) g.ands) q) := by
  have he := andW_err h
  obtain ⟨h1, h2, h3⟩ := hf he
  subst he
  unfold Aig.andW at h ⊢
  simp only [ne_eq, not_true_eq_false, if_false] at h ⊢
  cases ho : g.andO p q with
  | none => rw [ho] at h; simp at h
  | some r => exact andO_val h1 hb h2 h3 ho
theorem orW_val {g : Aig} {e p q : Int} (hf : e = 0 → Fine g ∧ g.lit p = true ∧ g.lit q = true) (hb : ((s.length + 1 : Nat) : Int) = g.first) (h : (g.orW e p q).2.1 = 0) :
    Aig.val (Aig.vals (false :: s) (g.orW e p q).1.ands) (g.orW e p q).2.2 = (Aig.val (Aig.vals (false :: s) g.ands) p || Aig.val (Aig.vals (false :: s) g.ands) q) := by
  have he : e = 0 := andW_err h
  have hf' : e = 0 → Fine g ∧ g.lit (turn p) = true ∧ g.lit (turn q) = true := fun he => ⟨(hf he).1, turn_lit (hf he).2.1, turn_lit (hf he).2.2⟩
  have k := andW_val (s := s) hf' hb h
  have ok := (andW_ok hf').2.2.1
  show Aig.val _ (turn _) = _
  rw [val_turn ok]
  obtain ⟨_, h2, h3⟩ := hf he
  have k' : Aig.val (Aig.vals (false :: s) (g.orW e p q).1.ands) (g.andW e (turn p) (turn q)).2.2 = _ := k
  rw [k', val_turn (litN_iff.1 h2).1, val_turn (litN_iff.1 h3).1]
  cases Aig.val (Aig.vals (false :: s) g.ands) p <;> cases Aig.val (Aig.vals (false :: s) g.ands) q <;> rfl
theorem pairs_val {g : Aig} {e a b c d : Int} (hf : e = 0 → Fine g ∧ g.lit a = true ∧ g.lit b = true ∧ g.lit c = true ∧ g.lit d = true) (hb : ((s.length + 1 : Nat) : Int) = g.first) (h : (g.pairs e a b c d).2.1 = 0) :
    Aig.val (Aig.vals (false :: s) (g.pairs e a b c d).1.ands) (g.pairs e a b c d).2.2 = ((Aig.val (Aig.vals (false :: s) g.ands) a && Aig.val (Aig.vals (false :: s) g.ands) b) || (Aig.val (Aig.vals (false :: s) g.ands) c && Aig.val (Aig.vals (false :: s) g.ands) d)) := by
  have f1 : e = 0 → Fine g ∧ g.lit a = true ∧ g.lit b = true := fun h => ⟨(hf h).1, (hf h).2.1, (hf h).2.2.1⟩
  obtain ⟨h1, h2, _⟩ := andW_ok f1
  have f2 : (g.andW e a b).2.1 = 0 → Fine (g.andW e a b).1 ∧ (g.andW e a b).1.lit c = true ∧ (g.andW e a b).1.lit d = true := fun h => by
    obtain ⟨_, _, _, hc, hd⟩ := hf (andW_err h)
    exact ⟨(h1 h).1, h2.lit hc, h2.lit hd⟩
  obtain ⟨k1, k2, _⟩ := andW_ok f2
  have f3 : ((g.andW e a b).1.andW (g.andW e a b).2.1 c d).2.1 = 0 → Fine ((g.andW e a b).1.andW (g.andW e a b).2.1 c d).1 ∧ ((g.andW e a b).1.andW (g.andW e a b).2.1 c d).1.lit (g.andW e a b).2.2 = true ∧ ((g.andW e a b).1.andW (g.andW e a b).2.1 c d).1.lit ((g.andW e a b).1.andW (g.andW e a b).2.1 c d).2.2 = true := fun h =>
    ⟨(k1 h).1, k2.lit (h1 (andW_err h)).2, (k1 h).2⟩
  have e2 : ((g.andW e a b).1.andW (g.andW e a b).2.1 c d).2.1 = 0 := andW_err h
  have e1 : (g.andW e a b).2.1 = 0 := andW_err e2
  have v1 := andW_val (s := s) f1 hb e1
  have v2 := andW_val (s := s) f2 (by rw [h2.first]; exact hb) e2
  have v3 := orW_val (s := s) f3 (by rw [k2.first, h2.first]; exact hb) h
  obtain ⟨hg, _, _, hc, hd⟩ := hf (andW_err e1)
  have x1 := val_ext (s := s) (h1 e1).1 (by rw [h2.first]; exact hb) k2 (h1 e1).2
  have x2 := val_ext (s := s) hg hb h2 hc
  have x3 := val_ext (s := s) hg hb h2 hd
  rw [x1, v1, v2, x2, x3] at v3
  exact v3
end
def Aig.value (g : Aig) (a : Int) (inp st : List Bool) : Bool := Aig.val (Aig.vals (false :: (inp ++ st)) g.ands) a
section
variable {g : Aig} {a b c : Int} {inp st : List Bool} (hs : Wf g) (l1 : (inp.length : Int) = g.ins) (l2 : st.length = g.flops.length)
include hs l1 l2
theorem and_val (h : (g.And a b).2.2 = 0) : (g.And a b).1.value (g.And a b).2.1 inp st = (g.value a inp st && g.value b inp st) := by
  have hb : (((inp ++ st).length + 1 : Nat) : Int) = g.first := by rw [List.length_append]; unfold Aig.first; omega
  unfold Aig.And at h ⊢
  by_cases h' : (g.andW (g.checkL g.check [a, b]) a b).2.1 = 0
  · rw [endW_ok h']
    exact andW_val (fun h => ⟨(checkL_fine hs h).1, (checkL_fine hs h).2 _ (by simp), (checkL_fine hs h).2 _ (by simp)⟩) hb h'
  · rw [endW_err h'] at h; exact (h' h).elim
theorem or_val (h : (g.Or a b).2.2 = 0) : (g.Or a b).1.value (g.Or a b).2.1 inp st = (g.value a inp st || g.value b inp st) := by
  have hb : (((inp ++ st).length + 1 : Nat) : Int) = g.first := by rw [List.length_append]; unfold Aig.first; omega
  unfold Aig.Or at h ⊢
  by_cases h' : (g.orW (g.checkL g.check [a, b]) a b).2.1 = 0
  · rw [endW_ok h']
    exact orW_val (fun h => ⟨(checkL_fine hs h).1, (checkL_fine hs h).2 _ (by simp), (checkL_fine hs h).2 _ (by simp)⟩) hb h'
  · rw [endW_err h'] at h; exact (h' h).elim
theorem xor_val (h : (g.Xor a b).2.2 = 0) : (g.Xor a b).1.value (g.Xor a b).2.1 inp st = (g.value a inp st != g.value b inp st) := by
  have hb : (((inp ++ st).length + 1 : Nat) : Int) = g.first := by rw [List.length_append]; unfold Aig.first; omega
  have hl := (xor_res hs a b).check hs h
  have pa := (litN_iff.1 (hl.2.2.2.2.2.1 a (by simp))).1
  have pb := (litN_iff.1 (hl.2.2.2.2.2.1 b (by simp))).1
  unfold Aig.Xor at h ⊢
  by_cases h' : (g.pairs (g.checkL g.check [a, b]) a (turn b) (turn a) b).2.1 = 0
  · rw [endW_ok h']
    have := pairs_val (s := inp ++ st) (fun h => ⟨(checkL_fine hs h).1, (checkL_fine hs h).2 _ (by simp), turn_lit ((checkL_fine hs h).2 _ (by simp)), turn_lit ((checkL_fine hs h).2 _ (by simp)), (checkL_fine hs h).2 _ (by simp)⟩) hb h'
    rw [val_turn pa, val_turn pb] at this
    refine this.trans ?_
    unfold Aig.value
    cases Aig.val (Aig.vals (false :: (inp ++ st)) g.ands) a <;> cases Aig.val (Aig.vals (false :: (inp ++ st)) g.ands) b <;> rfl
  · rw [endW_err h'] at h; exact (h' h).elim
end
end Fil

namespace Fil.Eqv
open Bd (D T3 In T varW notW iteW opW askE)
structure Good (n c : Nat) (b : D) : Prop where
  vars : b.1 = n
  few : n ≤ 8
  fine : Bd.Fine n b.2
  ups : Bd.ups n 3 b.2 ≤ 31 * c
theorem Good.len {n c : Nat} {b : D} (h : Good n c b) : b.2.length ≤ 278 + 31 * c := by
  have := Bd.len_ups h.fine.toOk 3
  have := h.ups
  have := Bd.low3
  omega
theorem Good.room {n c : Nat} {b : D} (h : Good n c b) (hc : c ≤ 2000) : b.2.length + 2 ^ (b.1.toNat + 1) ≤ 65537 ∧ b.2.length + 2 ^ b.1.toNat ≤ 65537 ∧ b.2.length < 65536 ∧ b.2.length ≤ 9223372036854775807 := by
  have := h.len
  have e : b.1.toNat = n := by rw [h.vars]; simp
  rw [e]
  have hf := h.few
  have p1 : 2 ^ (n + 1) ≤ 2 ^ 9 := Nat.pow_le_pow_right (by decide) (by omega)
  have p2 : 2 ^ n ≤ 2 ^ 8 := Nat.pow_le_pow_right (by decide) (by omega)
  omega
theorem Good.mono {n c d : Nat} {b : D} (h : Good n c b) (hd : c ≤ d) : Good n d b := ⟨h.vars, h.few, h.fine, by have := h.ups; omega⟩
structure Op (n c : Nat) (b : D) (t : List Bool) (r : D × Int × Int) : Prop where
  ok : r.2.2 = 0
  good : Good n (c + 1) r.1
  inn : In n r.1.2 0 r.2.1
  tab : T r.1 r.2.1 = t
  pre : ∃ l, r.1.2 = b.2 ++ l
theorem op_good {n c : Nat} {b : D} {t : List Bool} (h : Good n c b) (hc : c < 2000) (ht : t.length = 2 ^ n) : Op n c b t (opW b 0 t) := by
  have hr := h.room (by omega)
  obtain ⟨v, F⟩ := b
  obtain rfl : v = n := h.vars
  have hf := h.fine
  have P := Bd.put_ok n F 0 t hf.toOk (by omega) (by omega) ht
  have hu := Bd.put_ups (vars := (n : Int)) (k := 3) n F 0 t (by omega)
  have hp : 2 ^ (n - 3) ≤ 2 ^ 5 := Nat.pow_le_pow_right (by decide) (by have := h.few; omega)
  have hlen := P.len
  have hups := h.ups
  obtain ⟨l, el⟩ := P.pre
  have hfine : Bd.Fine n (Bd.put n F 0 t).1 := by
    have h3 := P.ok
    rw [el] at h3 ⊢
    refine Bd.fine_of hf h3 ?_
    rw [← el]
    have := hr.2.1
    simp only [Int.toNat_natCast] at this
    omega
  refine ⟨rfl, ⟨rfl, h.few, hfine, ?_⟩, P.inn, P.tab, ⟨l, el⟩⟩
  show Bd.ups n 3 (Bd.put n F 0 t).1 ≤ _
  simp only at hups
  omega
theorem In.len {n : Int} {F : List T3} {v x : Int} (h : In n F v x) : 0 ≤ x ∧ x < F.length := ⟨h.1, h.2.1⟩
theorem var_good {n c : Nat} {b : D} {i : Nat} (h : Good n c b) (hc : c < 2000) (hi : i < n) : Op n c b (Bd.varT n i) (varW b i) := by
  have e : askE b [] (Bd.off b i) = 0 := Bd.ask_ok (by rw [h.vars]; exact h.fine) (by simp [Bd.off, h.vars]; omega)
  have hv : b.1.toNat = n := by rw [h.vars]; simp
  unfold varW
  rw [e, hv, Int.toNat_natCast]
  exact op_good h hc (Bd.varT_len n i hi)
theorem ite_good {n c : Nat} {b : D} {f g k : Int} (h : Good n c b) (hc : c < 2000) (i1 : In n b.2 0 f) (i2 : In n b.2 0 g) (i3 : In n b.2 0 k) : Op n c b (Bd.iteT (T b f) (T b g) (T b k)) (iteW b f g k) := by
  have e : askE b [f, g, k] false = 0 := Bd.ask_ok (by rw [h.vars]; exact h.fine) (by simp [Bd.in_out i1, Bd.in_out i2, Bd.in_out i3])
  have hv : b.1.toNat = n := by rw [h.vars]; simp
  unfold iteW
  rw [e]
  have hl : ∀ f, (T b f).length = 2 ^ n := fun f => by rw [Bd.T_len, hv]
  exact op_good h hc (Bd.iteT_len (hl f) (hl g) (hl k))
theorem In0 {n c : Nat} {b : D} (h : Good n c b) : In n b.2 0 0 ∧ In n b.2 0 1 := by
  have h2 := h.fine.two
  have h3 := h.fine.lo
  exact ⟨⟨by omega, by omega, by simp [Bd.top]⟩, ⟨by omega, by omega, by simp [Bd.top]⟩⟩
theorem not_good {n c : Nat} {b : D} {f : Int} (h : Good n c b) (hc : c < 2000) (i1 : In n b.2 0 f) : Op n c b (Bd.iteT (T b f) (T b 0) (T b 1)) (notW b f) := ite_good h hc i1 (In0 h).1 (In0 h).2
theorem T_pre {n c : Nat} {b r : D} (h : Good n c b) (hr : r.1 = n) {l : List T3} (hl : r.2 = b.2 ++ l) {f : Int} (i : In n b.2 0 f) : T r f = T b f ∧ In n r.2 0 f := by
  obtain ⟨v, F⟩ := b
  obtain ⟨w, G⟩ := r
  obtain rfl : v = n := h.vars
  obtain rfl : w = n := hr
  simp only at hl
  subst hl
  exact ⟨Bd.T_app h.fine.toOk i, i.app l⟩
def newB (n : Nat) : D := (n, [(-1, 0, 0), (-1, 0, 0)])
theorem new_good {n : Nat} (h : n ≤ 8) : Good n 0 (newB n) := by
  refine ⟨rfl, h, Bd.chk_fine.1 ?_, ?_⟩
  · have h1 : ¬ 65536 < [((-1 : Int), (0 : Int), (0 : Int)), (-1, 0, 0)].length := by decide
    unfold newB Bd.chk
    rw [if_neg h1]
    have hh : Bd.head n [((-1 : Int), (0 : Int), (0 : Int)), (-1, 0, 0)] = false := by
      have e1 : ¬ (n : Int) < 0 := by omega
      have e2 : ¬ (32 : Int) < n := by omega
      simp [Bd.head, e1, e2, Bd.frk]
    rw [if_neg (by simp [hh])]
    simp
  · have : (List.range 2).filter (Bd.isUp n 3 [((-1 : Int), (0 : Int), (0 : Int)), (-1, 0, 0)]) = [] := by
      simp [List.range_succ, Bd.isUp]
    have e : Bd.ups n 3 (newB n).2 = ((List.range 2).filter (Bd.isUp n 3 [((-1 : Int), (0 : Int), (0 : Int)), (-1, 0, 0)])).length := rfl
    rw [e, this]; simp
end Fil.Eqv

namespace Fil.Eqv
open Bd (D T3 In T varW notW iteW opW askE lookT)
abbrev S := D × List Int
def stVar (s : S) (i : Nat) : S := ((varW s.1 i).1, s.2 ++ [(varW s.1 i).2.1])
def stVars (n i : Nat) : S := (List.range i).foldl stVar (newB n, [0])
def litM (b : D) (nodes : List Int) (l : Int) : D × Int :=
  if l % 2 = 0 then (b, nodes.getD (l / 2).toNat 0) else ((notW b (nodes.getD (l / 2).toNat 0)).1, (notW b (nodes.getD (l / 2).toNat 0)).2.1)
def stAnd (s : S) (x : Int × Int) : S :=
  let p := litM s.1 s.2 x.1
  let q := litM p.1 s.2 x.2
  ((iteW q.1 p.2 q.2 0).1, s.2 ++ [(iteW q.1 p.2 q.2 0).2.1])
def stOut (nodes : List Int) (s : S) (l : Int) : S := ((litM s.1 nodes l).1, s.2 ++ [(litM s.1 nodes l).2])
def lits (g : Aig) : List Int := g.outs ++ g.flops.map (·.next)
def bodyS (g : Aig) : S := g.ands.foldl stAnd (stVars (g.ins + g.flops.length).toNat (g.ins + g.flops.length).toNat)
def forksS (g : Aig) : S := (lits g).foldl (stOut (bodyS g).2) ((bodyS g).1, [])
theorem look_0 : ∀ (w : List Bool), lookT (List.replicate (2 ^ w.length) false) w = false
  | [] => rfl
  | x :: w => by
    have : 2 ^ (x :: w).length = 2 ^ w.length + 2 ^ w.length := by rw [List.length_cons, Nat.pow_succ]; omega
    rw [this, ← List.replicate_append_replicate, Bd.lookT_two (by simp)]
    cases x <;> simpa using look_0 w
theorem look_1 : ∀ (w : List Bool), lookT (List.replicate (2 ^ w.length) true) w = true
  | [] => rfl
  | x :: w => by
    have : 2 ^ (x :: w).length = 2 ^ w.length + 2 ^ w.length := by rw [List.length_cons, Nat.pow_succ]; omega
    rw [this, ← List.replicate_append_replicate, Bd.lookT_two (by simp)]
    cases x <;> simpa using look_1 w
theorem look_var : ∀ (d : Nat) (w : List Bool), d < w.length → lookT (Bd.varT w.length d) w = w.getD d false
  | d, [], h => by simp at h
  | 0, x :: w, h => by
    rw [List.length_cons, Bd.varT, Bd.lookT_two (by simp)]
    cases x
    · simpa using look_0 w
    · simpa using look_1 w
  | d + 1, x :: w, h => by
    have hd : d < w.length := by simpa using h
    rw [List.length_cons, Bd.varT, Bd.lookT_two (Bd.varT_len _ _ hd)]
    have := look_var d w hd
    cases x <;> simpa using this
theorem look_not {b : D} {f : Int} {w : List Bool} {n : Nat} (hn : b.1 = n) (hw : w.length = n) : lookT (Bd.iteT (T b f) (T b 0) (T b 1)) w = !lookT (T b f) w := by
  have hv : b.1.toNat = w.length := by rw [hn, hw]; simp
  have hl : ∀ f, (T b f).length = 2 ^ w.length := fun f => by rw [Bd.T_len, hv]
  rw [Bd.lookT_ite w _ _ _ (hl _) (hl _) (hl _)]
  have e0 : T b 0 = List.replicate (2 ^ w.length) false := by rw [← hv]; exact Bd.tab_zero ..
  have e1 : T b 1 = List.replicate (2 ^ w.length) true := by rw [← hv]; exact Bd.tab_one ..
  rw [e0, e1, look_0, look_1]
  cases lookT (T b f) w <;> rfl
theorem look_and {b : D} {f g : Int} {w : List Bool} {n : Nat} (hn : b.1 = n) (hw : w.length = n) : lookT (Bd.iteT (T b f) (T b g) (T b 0)) w = (lookT (T b f) w && lookT (T b g) w) := by
  have hv : b.1.toNat = w.length := by rw [hn, hw]; simp
  have hl : ∀ f, (T b f).length = 2 ^ w.length := fun f => by rw [Bd.T_len, hv]
  rw [Bd.lookT_ite w _ _ _ (hl _) (hl _) (hl _)]
  have e0 : T b 0 = List.replicate (2 ^ w.length) false := by rw [← hv]; exact Bd.tab_zero ..
  rw [e0, look_0]
  cases lookT (T b f) w <;> rfl
structure Rep (n c : Nat) (b : D) (nodes : List Int) (w v : List Bool) : Prop where
  good : Good n c b
  wl : w.length = n
  len : nodes.length = v.length
  inn : ∀ x ∈ nodes, In n b.2 0 x
  val : ∀ i, i < nodes.length → lookT (T b (nodes.getD i 0)) w = v.getD i false
theorem mem_getD {l : List Int} {i : Nat} (h : i < l.length) : l.getD i 0 ∈ l := by
  rw [List.getD_eq_getElem?_getD, List.getElem?_eq_getElem h]; exact List.getElem_mem h
theorem Rep.more {n c d : Nat} {b r : D} {nodes : List Int} {w v : List Bool} (h : Rep n c b nodes w v) (hg : Good n d r) (hp : ∃ l, r.2 = b.2 ++ l) : Rep n d r nodes w v := by
  obtain ⟨l, hl⟩ := hp
  have key : ∀ x ∈ nodes, T r x = T b x ∧ In n r.2 0 x := fun x hx => T_pre h.good hg.vars hl (h.inn x hx)
  exact ⟨hg, h.wl, h.len, fun x hx => (key x hx).2, fun i hi => by rw [(key _ (mem_getD hi)).1]; exact h.val i hi⟩
theorem Rep.push {n c : Nat} {b : D} {nodes : List Int} {w v : List Bool} (h : Rep n c b nodes w v) {x : Int} {y : Bool} (hx : In n b.2 0 x) (hy : lookT (T b x) w = y) : Rep n c b (nodes ++ [x]) w (v ++ [y]) := by
  have hlen := h.len
  refine ⟨h.good, h.wl, by simp [hlen], fun z hz => ?_, fun i hi => ?_⟩
  · rcases List.mem_append.1 hz with q | q
    · exact h.inn z q
    · simp at q; subst q; exact hx
  · simp only [List.length_append, List.length_cons, List.length_nil] at hi
    simp only [List.getD_eq_getElem?_getD]
    by_cases c : i < nodes.length
    · rw [List.getElem?_append_left c, List.getElem?_append_left (by omega), ← List.getD_eq_getElem?_getD, ← List.getD_eq_getElem?_getD]
      exact h.val i c
    · have e : i = nodes.length := by omega
      subst e
      rw [List.getElem?_append_right (by omega), List.getElem?_append_right (by omega)]
      simp [hlen, hy]
theorem rep_lit {n c : Nat} {b : D} {nodes : List Int} {w v : List Bool} (h : Rep n c b nodes w v) (hc : c < 2000) {l : Int} (h0 : 0 ≤ l) (h1 : (l / 2).toNat < nodes.length) :
    Rep n (c + 1) (litM b nodes l).1 nodes w v ∧ In n (litM b nodes l).1.2 0 (litM b nodes l).2 ∧ lookT (T (litM b nodes l).1 (litM b nodes l).2) w = Aig.val v l ∧ (∃ e, (litM b nodes l).1.2 = b.2 ++ e) ∧
    (l % 2 ≠ 0 → notW b (nodes.getD (l / 2).toNat 0) = ((litM b nodes l).1, (litM b nodes l).2, 0)) := by
  have hv := h.val _ h1
  have hi := h.inn _ (mem_getD h1)
  unfold litM
  by_cases c2 : l % 2 = 0
  · rw [if_pos c2]
    refine ⟨h.more (h.good.mono (by omega)) ⟨[], by simp⟩, hi, ?_, ⟨[], by simp⟩, fun q => absurd c2 q⟩
    rw [hv]
    unfold Aig.val
    have : decide (l % 2 = 1) = false := by simp; omega
    rw [this]; simp
  · rw [if_neg c2]
    obtain ⟨o1, o2, o3, o4, o5⟩ := not_good h.good hc hi
    refine ⟨h.more o2 o5, o3, ?_, o5, fun _ => Prod.ext rfl (Prod.ext rfl o1)⟩
    show lookT (T (notW b _).1 (notW b _).2.1) w = _
    rw [o4, look_not h.good.vars h.wl, hv]
    unfold Aig.val
    have : decide (l % 2 = 1) = true := by simp; omega
    rw [this]; cases v.getD (l / 2).toNat false <;> rfl
theorem rep_var {n c : Nat} {s : S} {w v : List Bool} (h : Rep n c s.1 s.2 w v) (hc : c < 2000) {i : Nat} (hi : i < n) : Rep n (c + 1) (stVar s i).1 (stVar s i).2 w (v ++ [w.getD i false]) ∧ (varW s.1 i).2.2 = 0 := by
  obtain ⟨o1, o2, o3, o4, o5⟩ := var_good h.good hc hi
  refine ⟨(h.more o2 o5).push o3 ?_, o1⟩
  have hw := h.wl
  rw [o4, ← hw, look_var i w (by omega)]
theorem rep_vars {n : Nat} (hn : n ≤ 8) {w : List Bool} (hw : w.length = n) : ∀ i, i ≤ n → Rep n i (stVars n i).1 (stVars n i).2 w ((false :: w).take (i + 1)) ∧ (stVars n i).2.length = i + 1
  | 0, _ => by
    refine ⟨⟨new_good hn, hw, by simp [stVars], fun x hx => ?_, fun i hi => ?_⟩, by simp [stVars]⟩
    · simp [stVars] at hx; subst hx
      exact (In0 (new_good hn)).1
    · have : i = 0 := by simp [stVars] at hi; omega
      subst this
      show lookT (T (newB n) 0) w = false
      have e0 : T (newB n) 0 = List.replicate (2 ^ w.length) false := by
        have : (newB n).1.toNat = w.length := by rw [hw]; simp [newB]
        rw [← this]; exact Bd.tab_zero ..
      rw [e0, look_0]
  | i + 1, hi => by
    obtain ⟨ih, il⟩ := rep_vars hn hw i (by omega)
    have e : stVars n (i + 1) = stVar (stVars n i) i := by simp [stVars, List.range_succ]
    obtain ⟨r1, r2⟩ := rep_var ih (by omega) (show i < n by omega)
    rw [e]
    refine ⟨?_, by simp [stVar, il]⟩
    have ht : (false :: w).take (i + 1 + 1) = (false :: w).take (i + 1) ++ [w.getD i false] := by
      rw [List.take_add_one (l := false :: w) (i := i + 1)]
      congr 1
      have : i < w.length := by omega
      simp [List.getD_eq_getElem?_getD, this]
    rw [ht]; exact r1
theorem rep_and {n c : Nat} {s : S} {w v : List Bool} (h : Rep n c s.1 s.2 w v) (hc : c + 3 ≤ 2000) {x : Int × Int} (h1 : 0 ≤ x.1 ∧ x.1 < 2 * s.2.length) (h2 : 0 ≤ x.2 ∧ x.2 < 2 * s.2.length) :
    Rep n (c + 3) (stAnd s x).1 (stAnd s x).2 w (v ++ [Aig.val v x.1 && Aig.val v x.2]) ∧ (iteW (litM (litM s.1 s.2 x.1).1 s.2 x.2).1 (litM s.1 s.2 x.1).2 (litM (litM s.1 s.2 x.1).1 s.2 x.2).2 0).2.2 = 0 ∧
    Rep n (c + 1) (litM s.1 s.2 x.1).1 s.2 w v ∧ Rep n (c + 2) (litM (litM s.1 s.2 x.1).1 s.2 x.2).1 s.2 w v := by
  obtain ⟨p1, p2, p3, ⟨p, hp⟩, _⟩ := rep_lit h (by omega) h1.1 (show (x.1 / 2).toNat < s.2.length by omega)
  obtain ⟨q1, q2, q3, ⟨q, hq⟩, _⟩ := rep_lit p1 (by omega) h2.1 (show (x.2 / 2).toNat < s.2.length by omega)
  have hP := T_pre p1.good q1.good.vars hq p2
  obtain ⟨o1, o2, o3, o4, o5⟩ := ite_good q1.good (by omega) hP.2 q2 (In0 q1.good).1
  refine ⟨(q1.more o2 o5).push o3 ?_, o1, p1, q1⟩
  rw [o4, look_and q1.good.vars h.wl, hP.1, p3, q3]
theorem rep_ands {n : Nat} {w : List Bool} : ∀ (l : List (Int × Int)) (c : Nat) (s : S) (v : List Bool), Rep n c s.1 s.2 w v → c + 3 * l.length ≤ 2000 → Aig.gatesOk (s.2.length : Nat) l = true →
    Rep n (c + 3 * l.length) (l.foldl stAnd s).1 (l.foldl stAnd s).2 w (Aig.vals v l) ∧ (l.foldl stAnd s).2.length = s.2.length + l.length
  | [], c, s, v, h, _, _ => ⟨h, by simp⟩
  | x :: l, c, s, v, h, hc, hg => by
    simp only [Aig.gatesOk, Bool.and_eq_true, litN_iff] at hg
    obtain ⟨⟨g1, g2⟩, g3⟩ := hg
    simp only [List.length_cons] at hc
    have r := (rep_and h (by omega) g1 g2).1
    have hl : (stAnd s x).2.length = s.2.length + 1 := by simp [stAnd]
    have := rep_ands l (c + 3) (stAnd s x) _ r (by omega) (by rw [hl]; exact_mod_cast g3)
    rw [hl] at this
    simp only [List.foldl_cons, List.length_cons, Aig.vals]
    exact ⟨by have e : c + 3 * (l.length + 1) = c + 3 + 3 * l.length := by omega
              rw [e]; exact this.1, by omega⟩
theorem rep_outs {n : Nat} {nodes : List Int} {w v : List Bool} : ∀ (l : List Int) (c : Nat) (b : D) (o : List Int) (u : List Bool), Rep n c b nodes w v → Rep n c b o w u → c + l.length ≤ 2000 → (∀ a ∈ l, 0 ≤ a ∧ a < 2 * nodes.length) →
    Rep n (c + l.length) (l.foldl (stOut nodes) (b, o)).1 (l.foldl (stOut nodes) (b, o)).2 w (u ++ l.map (Aig.val v)) ∧ Rep n (c + l.length) (l.foldl (stOut nodes) (b, o)).1 nodes w v
  | [], c, b, o, u, h, ho, _, _ => ⟨by simpa using ho, h⟩
  | a :: l, c, b, o, u, h, ho, hc, ha => by
    simp only [List.length_cons] at hc
    have ha0 := ha a (by simp)
    obtain ⟨p1, p2, p3, p4, _⟩ := rep_lit h (by omega) ha0.1 (show (a / 2).toNat < nodes.length by omega)
    have := rep_outs l (c + 1) (litM b nodes a).1 (o ++ [(litM b nodes a).2]) (u ++ [Aig.val v a]) p1 ((ho.more p1.good p4).push p2 p3) (by omega) fun x hx => ha x (by simp [hx])
    simp only [List.foldl_cons, List.length_cons, List.map_cons]
    have e : c + (l.length + 1) = c + 1 + l.length := by omega
    rw [e]
    refine ⟨?_, this.2⟩
    have e2 : u ++ Aig.val v a :: l.map (Aig.val v) = u ++ [Aig.val v a] ++ l.map (Aig.val v) := by simp
    rw [e2]
    exact this.1
end Fil.Eqv

namespace Fil.Eqv
open Abs
theorem andW_fit {g : Aig} {p q : Int} (h : g.count < 65536) : (g.andW 0 p q).2.1 = 0 := by
  have hn : g.andO p q ≠ none := by
    unfold Aig.andO
    simp only
    split
    · simp
    · split
      · simp
      · split
        · simp
        · split
          · omega
          · simp
  unfold Aig.andW
  rw [if_neg (by simp)]
  cases ho : g.andO p q with
  | none => exact absurd ho hn
  | some r => rfl
theorem And_fit {g : Aig} {a b : Int} (hc : g.check = 0) (ha : g.lit a = true) (hb : g.lit b = true) (h : g.count < 65536) : (g.And a b).2.2 = 0 := by
  unfold Aig.And
  rw [checkL_two hc ha hb]
  have := andW_fit (p := a) (q := b) h
  unfold Aig.endW
  rw [if_neg (by simp [this])]
theorem Or_fit {g : Aig} {a b : Int} (hc : g.check = 0) (ha : g.lit a = true) (hb : g.lit b = true) (h : g.count < 65536) : (g.Or a b).2.2 = 0 := by
  unfold Aig.Or
  rw [checkL_two hc ha hb]
  have := andW_fit (p := turn a) (q := turn b) h
  unfold Aig.endW Aig.orW
  rw [if_neg (by simp [this])]
theorem andW_count {g : Aig} {p q : Int} (hf : Fine g) (hp : g.lit p = true) (hq : g.lit q = true) : (g.andW 0 p q).1.count ≤ g.count + 1 := by
  have h1 := (andW_ok (g := g) (e := 0) (p := p) (q := q) fun _ => ⟨hf, hp, hq⟩).2.1
  have h2 := andW_len g 0 p q
  unfold Aig.count
  rw [h1.ins, h1.flops]; omega
theorem Xor_fit {g : Aig} {a b : Int} (hs : Wf g) (hc : g.check = 0) (ha : g.lit a = true) (hb : g.lit b = true) (h : g.count + 2 < 65536) : (g.Xor a b).2.2 = 0 := by
  have hf := check_fine hs hc
  unfold Aig.Xor
  rw [checkL_two hc ha hb]
  have e1 := andW_fit (g := g) (p := a) (q := turn b) (by omega)
  have k1 := andW_ok (g := g) (e := 0) (p := a) (q := turn b) fun _ => ⟨hf, ha, turn_lit hb⟩
  have c1 := andW_count hf ha (turn_lit hb)
  have hl1 := k1.2.1.lit (turn_lit ha)
  have hl2 := k1.2.1.lit hb
  have hf1 := (k1.1 e1).1
  have e2 := andW_fit (g := (g.andW 0 a (turn b)).1) (p := turn a) (q := b) (by omega)
  have c2 := andW_count hf1 hl1 hl2
  have e3 := fun p q => andW_fit (g := ((g.andW 0 a (turn b)).1.andW 0 (turn a) b).1) (p := p) (q := q) (by omega)
  have hp : (g.pairs 0 a (turn b) (turn a) b).2.1 = 0 := by
    unfold Aig.pairs Aig.orW
    simp only [e1, e2]
    exact e3 _ _
  unfold Aig.endW
  rw [if_neg (by simp [hp])]
theorem wf_of {m : Aig} (hf : Fine m) : Wf m := hf.toWf
def moveL (to : List Int) (l : Int) : Int := if l % 2 = 0 then to.getD (l / 2).toNat 0 else turn (to.getD (l / 2).toNat 0)
def m0 (g : Aig) : Aig := ⟨g.ins, List.replicate g.flops.length ⟨0, false⟩, g.ands, []⟩
def to0 (g : Aig) : List Int := (List.range (1 + g.ins + g.flops.length).toNat).map fun n : Nat => 2 * (n : Int)
def mAnd (s : Aig × List Int) (x : Int × Int) : Aig × List Int := ((s.1.And (moveL s.2 x.1) (moveL s.2 x.2)).1, s.2 ++ [(s.1.And (moveL s.2 x.1) (moveL s.2 x.2)).2.1])
def mDiff (s : Aig × Int) (p : Int × Int) : Aig × Int := (((s.1.Xor p.1 p.2).1.Or s.2 (s.1.Xor p.1 p.2).2.1).1, ((s.1.Xor p.1 p.2).1.Or s.2 (s.1.Xor p.1 p.2).2.1).2.1)
def bodyM (g h : Aig) : Aig × List Int := h.ands.foldl mAnd (m0 g, to0 g)
def pairsM (g h : Aig) : List (Int × Int) := (lits g).zip ((lits h).map (moveL (bodyM g h).2))
def miterS (g h : Aig) : Aig × Int := (pairsM g h).foldl mDiff ((bodyM g h).1, 0)
def miterM (g h : Aig) : Aig := { (miterS g h).1 with outs := [(miterS g h).2] }
structure MI (g : Aig) (N : Nat) (m : Aig) : Prop where
  small : g.ins + g.flops.length ≤ 8
  check : m.check = 0
  fine : Fine m
  ext : Ext (m0 g) m
  len : m.ands.length ≤ N
theorem MI.count {g m : Aig} {N : Nat} (h : MI g N m) : m.count ≤ 8 + N := by
  have h1 := h.small
  have h2 := h.len
  unfold Aig.count
  rw [h.ext.ins, h.ext.flops]
  simp only [m0, List.length_replicate]; omega
theorem MI.first {g m : Aig} {N : Nat} (h : MI g N m) : m.first = g.first := by
  unfold Aig.first
  rw [h.ext.ins, h.ext.flops]; simp [m0]
theorem mi_and {g m : Aig} {N : Nat} (h : MI g N m) (hN : N ≤ 60000) {a b : Int} (ha : m.lit a = true) (hb : m.lit b = true) :
    (m.And a b).2.2 = 0 ∧ MI g (N + 1) (m.And a b).1 ∧ Ext m (m.And a b).1 ∧ (m.And a b).1.lit (m.And a b).2.1 = true := by
  have hc := h.count
  have e := And_fit h.check ha hb (by omega)
  obtain ⟨r1, r2, r3, r4, r5, _, _⟩ := (and_res (wf_of h.fine) a b).check (wf_of h.fine) e
  exact ⟨e, ⟨h.small, r1, r2, h.ext.trans r3, by have := h.len; omega⟩, r3, r4⟩
theorem mi_or {g m : Aig} {N : Nat} (h : MI g N m) (hN : N ≤ 60000) {a b : Int} (ha : m.lit a = true) (hb : m.lit b = true) :
    (m.Or a b).2.2 = 0 ∧ MI g (N + 1) (m.Or a b).1 ∧ Ext m (m.Or a b).1 ∧ (m.Or a b).1.lit (m.Or a b).2.1 = true := by
  have hc := h.count
  have e := Or_fit h.check ha hb (by omega)
  obtain ⟨r1, r2, r3, r4, r5, _, _⟩ := (or_res (wf_of h.fine) a b).check (wf_of h.fine) e
  exact ⟨e, ⟨h.small, r1, r2, h.ext.trans r3, by have := h.len; omega⟩, r3, r4⟩
theorem mi_xor {g m : Aig} {N : Nat} (h : MI g N m) (hN : N ≤ 60000) {a b : Int} (ha : m.lit a = true) (hb : m.lit b = true) :
    (m.Xor a b).2.2 = 0 ∧ MI g (N + 3) (m.Xor a b).1 ∧ Ext m (m.Xor a b).1 ∧ (m.Xor a b).1.lit (m.Xor a b).2.1 = true := by
  have hc := h.count
  have e := Xor_fit (wf_of h.fine) h.check ha hb (by omega)
  obtain ⟨r1, r2, r3, r4, r5, _, _⟩ := (xor_res (wf_of h.fine) a b).check (wf_of h.fine) e
  exact ⟨e, ⟨h.small, r1, r2, h.ext.trans r3, by have := h.len; omega⟩, r3, r4⟩
theorem m0_check {g : Aig} (hs : Wf g) (hc : g.check = 0) (h8 : g.ins + g.flops.length ≤ 8) : MI g g.ands.length (m0 g) := by
  have hf := check_fine hs hc
  have hsm := hf.toSmall
  have hlo := hsm.lo
  have hcn := hf.cnt
  have ec : (m0 g).count = g.count := by simp [Aig.count, m0]
  have ef : (m0 g).first = g.first := by simp [Aig.first, m0]
  have hwf : Wf (m0 g) := ⟨hs.ins, by simpa [m0] using hs.flops, hs.ands, by simp [m0], fun f hm => by
    have := List.eq_of_mem_replicate (show f ∈ List.replicate g.flops.length (⟨0, false⟩ : Flop) from hm)
    rw [this]; simp [I64], hs.gates, by simp [m0]⟩
  have hck : (m0 g).check = 0 := by
    unfold Aig.check
    have h1 : ¬ (m0 g).ins < 0 := by show ¬ g.ins < 0; omega
    have h2 : ¬ (65536 < (m0 g).ins ∨ 65536 < (m0 g).count ∨ 65536 < ((m0 g).outs.length : Int)) := by
      rw [ec]
      show ¬ (65536 < g.ins ∨ 65536 < g.count ∨ 65536 < (([] : List Int).length : Int))
      simp only [List.length_nil]; omega
    rw [if_neg h1, if_neg h2, if_pos]
    unfold Aig.good
    rw [ef]
    simp only [Bool.and_eq_true, Bool.not_eq_true', List.any_eq_false, Bool.not_eq_true, Bool.not_eq_false']
    refine ⟨⟨hf.gok, fun f hm => ?_⟩, fun a hm => by simp [m0] at hm⟩
    have := List.eq_of_mem_replicate (show f ∈ List.replicate g.flops.length (⟨0, false⟩ : Flop) from hm)
    rw [this]
    unfold Aig.lit
    rw [ec]
    have h0 : 0 ≤ g.count := by unfold Aig.count; omega
    have hl : Aig.litN (1 + g.count) 0 = true := litN_iff.2 (by omega)
    show ¬ Aig.litN (1 + g.count) 0 = false
    rw [hl]; simp
  exact ⟨h8, hck, check_fine hwf hck, .refl _, Nat.le_refl _⟩
abbrev at_ (m : Aig) (s : List Bool) (a : Int) : Bool := Aig.val (Aig.vals (false :: s) m.ands) a
structure Mov (g : Aig) (N : Nat) (m : Aig) (to : List Int) (s v : List Bool) : Prop where
  mi : MI g N m
  sl : ((s.length + 1 : Nat) : Int) = g.first
  len : to.length = v.length
  lit : ∀ t ∈ to, m.lit t = true
  val : ∀ i, i < to.length → at_ m s (to.getD i 0) = v.getD i false
theorem val_and {g m : Aig} {N : Nat} {s : List Bool} (h : MI g N m) (hs : ((s.length + 1 : Nat) : Int) = g.first) {a b : Int} (e : (m.And a b).2.2 = 0) : at_ (m.And a b).1 s (m.And a b).2.1 = (at_ m s a && at_ m s b) := by
  have hl := h.fine.lo
  have hf := h.first
  have := and_val (g := m) (a := a) (b := b) (inp := s.take m.ins.toNat) (st := s.drop m.ins.toNat) (wf_of h.fine) (by
    rw [List.length_take]; unfold Aig.first at hf hs; omega) (by rw [List.length_drop]; unfold Aig.first at hf hs; omega) e
  simpa [Aig.value] using this
theorem val_or {g m : Aig} {N : Nat} {s : List Bool} (h : MI g N m) (hs : ((s.length + 1 : Nat) : Int) = g.first) {a b : Int} (e : (m.Or a b).2.2 = 0) : at_ (m.Or a b).1 s (m.Or a b).2.1 = (at_ m s a || at_ m s b) := by
  have hl := h.fine.lo
  have hf := h.first
  have := or_val (g := m) (a := a) (b := b) (inp := s.take m.ins.toNat) (st := s.drop m.ins.toNat) (wf_of h.fine) (by
    rw [List.length_take]; unfold Aig.first at hf hs; omega) (by rw [List.length_drop]; unfold Aig.first at hf hs; omega) e
  simpa [Aig.value] using this
theorem val_xor {g m : Aig} {N : Nat} {s : List Bool} (h : MI g N m) (hs : ((s.length + 1 : Nat) : Int) = g.first) {a b : Int} (e : (m.Xor a b).2.2 = 0) : at_ (m.Xor a b).1 s (m.Xor a b).2.1 = (at_ m s a != at_ m s b) := by
  have hl := h.fine.lo
  have hf := h.first
  have := xor_val (g := m) (a := a) (b := b) (inp := s.take m.ins.toNat) (st := s.drop m.ins.toNat) (wf_of h.fine) (by
    rw [List.length_take]; unfold Aig.first at hf hs; omega) (by rw [List.length_drop]; unfold Aig.first at hf hs; omega) e
  simpa [Aig.value] using this
theorem at_ext {g m k : Aig} {N : Nat} {s : List Bool} (h : MI g N m) (hs : ((s.length + 1 : Nat) : Int) = g.first) (hx : Ext m k) {a : Int} (ha : m.lit a = true) : at_ k s a = at_ m s a :=
  val_ext h.fine (by rw [h.first]; exact hs) hx ha
theorem lit_pos {m : Aig} {a : Int} (h : m.lit a = true) : 0 ≤ a := (litN_iff.1 h).1
theorem mov_lit {g m : Aig} {N : Nat} {to : List Int} {s v : List Bool} (h : Mov g N m to s v) {l : Int} (h0 : 0 ≤ l) (h1 : (l / 2).toNat < to.length) : m.lit (moveL to l) = true ∧ at_ m s (moveL to l) = Aig.val v l := by
  have hl := h.lit _ (mem_getD h1)
  have hv := h.val _ h1
  unfold moveL Aig.val
  by_cases c : l % 2 = 0
  · rw [if_pos c]
    have : decide (l % 2 = 1) = false := by simp; omega
    rw [this, hv]
    exact ⟨hl, by simp⟩
  · rw [if_neg c]
    have : decide (l % 2 = 1) = true := by simp; omega
    rw [this]
    refine ⟨turn_lit hl, ?_⟩
    unfold at_ at hv ⊢
    rw [val_turn (lit_pos hl), hv]
    cases v.getD (l / 2).toNat false <;> rfl
theorem mov_and {g m : Aig} {N : Nat} {to : List Int} {s v : List Bool} (h : Mov g N m to s v) (hN : N ≤ 60000) {x : Int × Int} (h1 : 0 ≤ x.1 ∧ x.1 < 2 * to.length) (h2 : 0 ≤ x.2 ∧ x.2 < 2 * to.length) :
    Mov g (N + 1) (mAnd (m, to) x).1 (mAnd (m, to) x).2 s (v ++ [Aig.val v x.1 && Aig.val v x.2]) ∧ (m.And (moveL to x.1) (moveL to x.2)).2.2 = 0 ∧ m.lit (moveL to x.1) = true ∧ m.lit (moveL to x.2) = true := by
  obtain ⟨a1, a2⟩ := mov_lit h h1.1 (show (x.1 / 2).toNat < to.length by omega)
  obtain ⟨b1, b2⟩ := mov_lit h h2.1 (show (x.2 / 2).toNat < to.length by omega)
  obtain ⟨e, r1, r2, r3⟩ := mi_and h.mi hN a1 b1
  have hv := val_and h.mi h.sl e
  rw [a2, b2] at hv
  have hlen := h.len
  refine ⟨⟨r1, h.sl, by simp [mAnd, hlen], fun t ht => ?_, fun i hi => ?_⟩, e, a1, b1⟩
  · rcases List.mem_append.1 ht with q | q
    · exact r2.lit (h.lit t q)
    · simp at q; subst q; exact r3
  · simp only [mAnd, List.length_append, List.length_cons, List.length_nil] at hi ⊢
    simp only [List.getD_eq_getElem?_getD]
    by_cases c : i < to.length
    · rw [List.getElem?_append_left c, List.getElem?_append_left (by omega), ← List.getD_eq_getElem?_getD, ← List.getD_eq_getElem?_getD, at_ext h.mi h.sl r2 (h.lit _ (mem_getD c))]
      exact h.val i c
    · have e : i = to.length := by omega
      subst e
      rw [List.getElem?_append_right (by omega), List.getElem?_append_right (by omega)]
      simpa [hlen] using hv
theorem mov_ands {g : Aig} {s : List Bool} : ∀ (l : List (Int × Int)) (N : Nat) (p : Aig × List Int) (v : List Bool), Mov g N p.1 p.2 s v → N + l.length ≤ 60000 → Aig.gatesOk (p.2.length : Nat) l = true →
    Mov g (N + l.length) (l.foldl mAnd p).1 (l.foldl mAnd p).2 s (Aig.vals v l) ∧ (l.foldl mAnd p).2.length = p.2.length + l.length
  | [], N, p, v, h, _, _ => ⟨h, by simp⟩
  | x :: l, N, p, v, h, hc, hg => by
    simp only [Aig.gatesOk, Bool.and_eq_true, litN_iff] at hg
    obtain ⟨⟨g1, g2⟩, g3⟩ := hg
    simp only [List.length_cons] at hc
    have r := (mov_and h (by omega) g1 g2).1
    have hl : (mAnd p x).2.length = p.2.length + 1 := by simp [mAnd]
    have := mov_ands l (N + 1) (mAnd p x) _ r (by omega) (by rw [hl]; exact_mod_cast g3)
    rw [hl] at this
    simp only [List.foldl_cons, List.length_cons, Aig.vals]
    exact ⟨by have e : N + (l.length + 1) = N + 1 + l.length := by omega
              rw [e]; exact this.1, by omega⟩
theorem to0_ok {g : Aig} (hs : Wf g) (hc : g.check = 0) (h8 : g.ins + g.flops.length ≤ 8) {s : List Bool} (hsl : ((s.length + 1 : Nat) : Int) = g.first) : Mov g g.ands.length (m0 g) (to0 g) s (false :: s) := by
  have hm := m0_check hs hc h8
  have hf := check_fine hs hc
  have hlo := hf.lo
  have hlen : (to0 g).length = s.length + 1 := by unfold Aig.first at hsl; simp [to0]; omega
  have hat : ∀ i : Nat, i < s.length + 1 → at_ (m0 g) s (2 * (i : Int)) = (false :: s).getD i false := fun i hi => by
    obtain ⟨m, e⟩ := vals_prefix g.ands (false :: s)
    show Aig.val (Aig.vals (false :: s) g.ands) _ = _
    rw [e, val_app (by simp; omega)]
    unfold Aig.val
    have e1 : (2 * (i : Int) / 2).toNat = i := by omega
    have e2 : decide (2 * (i : Int) % 2 = 1) = false := by simp
    rw [e1, e2]; simp
  refine ⟨hm, hsl, by simp [hlen], fun t ht => ?_, fun i hi => ?_⟩
  · simp only [to0, List.mem_map, List.mem_range] at ht
    obtain ⟨i, hi, rfl⟩ := ht
    unfold Aig.lit
    rw [litN_iff]
    have : (m0 g).count = g.count := by simp [Aig.count, m0]
    rw [this]
    unfold Aig.count
    omega
  · have hi2 : i < (1 + g.ins + g.flops.length).toNat := by simpa [to0] using hi
    have : (to0 g).getD i 0 = 2 * (i : Int) := by
      simp [to0, List.getD_eq_getElem?_getD, hi2]
    rw [this]
    exact hat i (by omega)
end Fil.Eqv

namespace Fil.Eqv
open Abs
open Bd (D T3 In T lookT oneW fstT)
def outV (g : Aig) (s : List Bool) : List Bool := (lits g).map (at_ g s)
structure Ok (g : Aig) : Prop where
  wf : Wf g
  check : g.check = 0
  eight : g.ins + g.flops.length ≤ 8
  ands : g.ands.length ≤ 300
  outs : g.outs.length ≤ 20
theorem Ok.fine {g : Aig} (h : Ok g) : Fine g := check_fine h.wf h.check
theorem Ok.lo {g : Aig} (h : Ok g) : 0 ≤ g.ins := h.fine.lo
theorem Ok.good {g : Aig} (h : Ok g) : g.good = true := by
  have hc := h.check
  unfold Aig.check at hc
  split at hc
  · simp at hc
  · split at hc
    · simp at hc
    · split at hc
      · assumption
      · simp at hc
theorem Ok.lits {g : Aig} (h : Ok g) : ∀ a ∈ lits g, g.lit a = true := fun a ha => by
  have hg := h.good
  simp only [Aig.good, Bool.and_eq_true, Bool.not_eq_true', List.any_eq_false, Bool.not_eq_true, Bool.not_eq_false'] at hg
  rcases List.mem_append.1 ha with q | q
  · have := hg.2 a q; simpa using this
  · simp only [List.mem_map] at q
    obtain ⟨f, hf, rfl⟩ := q
    have := hg.1.2 f hf; simpa using this
theorem lits_len (g : Aig) : (lits g).length = g.outs.length + g.flops.length := by simp [lits]
theorem lit_at {g : Aig} {n : Nat} (h : ((n + 1 : Nat) : Int) = g.first) {a : Int} (ha : g.lit a = true) : 0 ≤ a ∧ a < 2 * ((n + 1 + g.ands.length : Nat) : Int) := by
  have := litN_iff.1 ha
  have := count_first g
  omega

/-! ### The diagrams -/
theorem body_rep {g : Aig} (h : Ok g) {w : List Bool} (hw : ((w.length : Nat) : Int) = g.ins + g.flops.length) : Rep w.length (w.length + 3 * g.ands.length) (bodyS g).1 (bodyS g).2 w (Aig.vals (false :: w) g.ands) ∧ (bodyS g).2.length = w.length + 1 + g.ands.length := by
  have e : (g.ins + g.flops.length).toNat = w.length := by omega
  have h8 : w.length ≤ 8 := by have := h.eight; omega
  have ha := h.ands
  obtain ⟨r1, r2⟩ := rep_vars h8 rfl w.length (Nat.le_refl _)
  have ht : (false :: w).take (w.length + 1) = false :: w := List.take_of_length_le (by simp)
  rw [ht] at r1
  have hg := (good_gates h.good)
  have hfst : g.first = ((w.length + 1 : Nat) : Int) := by unfold Aig.first; omega
  rw [hfst] at hg
  have := rep_ands g.ands w.length (stVars w.length w.length) (false :: w) r1 (by omega) (by rw [r2]; exact hg)
  unfold bodyS
  rw [e]
  rw [r2] at this
  exact this
theorem forks_rep {g : Aig} (h : Ok g) {w : List Bool} (hw : ((w.length : Nat) : Int) = g.ins + g.flops.length) : Rep w.length (w.length + 3 * g.ands.length + (lits g).length) (forksS g).1 (forksS g).2 w (outV g w) := by
  obtain ⟨b1, b2⟩ := body_rep h hw
  have h8 := h.eight
  have ha := h.ands
  have ho := h.outs
  have hl := lits_len g
  have hfst : ((w.length + 1 : Nat) : Int) = g.first := by unfold Aig.first; omega
  have hlo := h.lo
  have := rep_outs (n := w.length) (nodes := (bodyS g).2) (w := w) (v := Aig.vals (false :: w) g.ands) (lits g) (w.length + 3 * g.ands.length) (bodyS g).1 [] [] b1
    ⟨b1.good, rfl, rfl, by simp, by simp⟩ (by omega) fun a ha => by
      have := lit_at hfst (h.lits a ha)
      rw [b2]; omega
  have := this.1
  simpa [forksS, outV] using this

/-! ### The miter -/
theorem mov_diffs {g : Aig} {s : List Bool} (hs : ((s.length + 1 : Nat) : Int) = g.first) : ∀ (ps : List (Int × Int)) (N : Nat) (m : Aig) (l : Int), MI g N m → (∀ p ∈ ps, m.lit p.1 = true ∧ m.lit p.2 = true) → m.lit l = true → N + 4 * ps.length ≤ 60000 →
    MI g (N + 4 * ps.length) (ps.foldl mDiff (m, l)).1 ∧ Ext m (ps.foldl mDiff (m, l)).1 ∧ (ps.foldl mDiff (m, l)).1.lit (ps.foldl mDiff (m, l)).2 = true ∧
    at_ (ps.foldl mDiff (m, l)).1 s (ps.foldl mDiff (m, l)).2 = (at_ m s l || ps.any fun p => at_ m s p.1 != at_ m s p.2)
  | [], N, m, l, h, _, hl, _ => ⟨h, .refl m, hl, by simp⟩
  | p :: ps, N, m, l, h, hp, hl, hN => by
    simp only [List.length_cons] at hN
    obtain ⟨p1, p2⟩ := hp p (by simp)
    obtain ⟨x1, x2, x3, x4⟩ := mi_xor h (by omega) p1 p2
    obtain ⟨y1, y2, y3, y4⟩ := mi_or x2 (by omega) (x3.lit hl) x4
    have v1 := val_xor h hs x1
    have v2 := val_or x2 hs y1
    have hx := x3.trans y3
    obtain ⟨z1, z2, z3, z4⟩ := mov_diffs hs ps (N + 3 + 1) (mDiff (m, l) p).1 (mDiff (m, l) p).2 y2 (fun q hq => ⟨hx.lit (hp q (by simp [hq])).1, hx.lit (hp q (by simp [hq])).2⟩) y4 (by omega)
    simp only [List.foldl_cons, List.length_cons, List.any_cons]
    refine ⟨by have e : N + 4 * (ps.length + 1) = N + 3 + 1 + 4 * ps.length := by omega
               rw [e]; exact z1, hx.trans z2, z3, ?_⟩
    refine z4.trans ?_
    have e1 : at_ (mDiff (m, l) p).1 s (mDiff (m, l) p).2 = (at_ m s l || (at_ m s p.1 != at_ m s p.2)) := by
      refine v2.trans ?_
      rw [v1, at_ext h hs x3 hl]
    have e2 : (ps.any fun q => at_ (mDiff (m, l) p).1 s q.1 != at_ (mDiff (m, l) p).1 s q.2) = ps.any fun q => at_ m s q.1 != at_ m s q.2 := by
      rw [Bool.eq_iff_iff, List.any_eq_true, List.any_eq_true]
      constructor
      · rintro ⟨q, hq, h'⟩
        refine ⟨q, hq, ?_⟩
        have k1 := at_ext h hs hx (hp q (by simp [hq])).1
        have k2 := at_ext h hs hx (hp q (by simp [hq])).2
        have k1' : at_ (mDiff (m, l) p).1 s q.1 = at_ m s q.1 := k1
        have k2' : at_ (mDiff (m, l) p).1 s q.2 = at_ m s q.2 := k2
        rwa [k1', k2'] at h'
      · rintro ⟨q, hq, h'⟩
        refine ⟨q, hq, ?_⟩
        have k1 := at_ext h hs hx (hp q (by simp [hq])).1
        have k2 := at_ext h hs hx (hp q (by simp [hq])).2
        have k1' : at_ (mDiff (m, l) p).1 s q.1 = at_ m s q.1 := k1
        have k2' : at_ (mDiff (m, l) p).1 s q.2 = at_ m s q.2 := k2
        rwa [k1', k2']
    rw [e1, e2, Bool.or_assoc]
structure Two (g h : Aig) : Prop where
  gg : Ok g
  hh : Ok h
  ins : g.ins = h.ins
  flops : g.flops.length = h.flops.length
  outs : g.outs.length = h.outs.length
  few : g.ands.length + h.ands.length ≤ 100
theorem Two.pairs {g h : Aig} (t : Two g h) : (pairsM g h).length = g.outs.length + g.flops.length := by
  have := t.flops
  have := t.outs
  simp [pairsM, lits_len]; omega
theorem Two.first {g h : Aig} (t : Two g h) : h.first = g.first := by
  have := t.ins
  have := t.flops
  unfold Aig.first; omega
theorem bodyM_ok {g h : Aig} (t : Two g h) {s : List Bool} (hs : ((s.length + 1 : Nat) : Int) = g.first) :
    Mov g (g.ands.length + h.ands.length) (bodyM g h).1 (bodyM g h).2 s (Aig.vals (false :: s) h.ands) ∧ (bodyM g h).2.length = s.length + 1 + h.ands.length := by
  have k := to0_ok t.gg.wf t.gg.check t.gg.eight hs
  have hk : (to0 g).length = s.length + 1 := by rw [k.len]; simp
  have hg := good_gates t.hh.good
  rw [t.first, ← hs] at hg
  have hf := t.few
  have := mov_ands h.ands g.ands.length (m0 g, to0 g) (false :: s) k (by omega) (by rw [hk]; exact hg)
  rw [hk] at this
  exact this
theorem mem_zip_map {l m : List Int} {f : Int → Int} {p : Int × Int} (h : p ∈ l.zip (m.map f)) : p.1 ∈ l ∧ ∃ b ∈ m, p.2 = f b := by
  obtain ⟨x, y⟩ := p
  have h1 := (List.of_mem_zip h).1
  have h2 := (List.of_mem_zip h).2
  obtain ⟨b, hb, rfl⟩ := List.mem_map.1 h2
  exact ⟨h1, b, hb, rfl⟩
theorem m0_lit {g : Aig} {a : Int} (h : g.lit a = true) : (m0 g).lit a = true := by
  unfold Aig.lit at *
  have : (m0 g).count = g.count := by simp [Aig.count, m0]
  rwa [this]
theorem pairs_lit {g h : Aig} (t : Two g h) {s : List Bool} (hs : ((s.length + 1 : Nat) : Int) = g.first) : ∀ p ∈ pairsM g h, (bodyM g h).1.lit p.1 = true ∧ (bodyM g h).1.lit p.2 = true := fun p hp => by
  obtain ⟨b1, b2⟩ := bodyM_ok t hs
  obtain ⟨q1, b, q2, q3⟩ := mem_zip_map hp
  refine ⟨b1.mi.ext.lit (m0_lit (t.gg.lits _ q1)), ?_⟩
  rw [q3]
  have hb := lit_at (g := h) (n := s.length) (by rw [t.first]; exact hs) (t.hh.lits b q2)
  exact (mov_lit b1 hb.1 (by omega)).1
theorem any_zip {f1 f2 : Int → Bool} {tr : Int → Int} {k : Int → Bool} : ∀ (l m : List Int), l.length = m.length → (∀ b ∈ m, k (tr b) = f2 b) → (∀ a ∈ l, k a = f1 a) → ((l.zip (m.map tr)).any fun p => k p.1 != k p.2) = decide (l.map f1 ≠ m.map f2)
  | [], [], _, _, _ => by simp
  | a :: l, b :: m, hl, h2, h1 => by
    have ih := any_zip (f1 := f1) (f2 := f2) (tr := tr) (k := k) l m (by simpa using hl) (fun b hb => h2 b (by simp [hb])) fun a ha => h1 a (by simp [ha])
    simp only [List.map_cons, List.zip_cons_cons, List.any_cons, ih, h1 a (by simp), h2 b (by simp)]
    rw [Bool.eq_iff_iff]
    simp only [Bool.or_eq_true, decide_eq_true_eq, ne_eq, bne_iff_ne, List.cons.injEq, not_and]
    constructor
    · rintro (h | h) e
      · exact absurd e h
      · exact h
    · intro h
      by_cases e : f1 a = f2 b
      · exact .inr (h e)
      · exact .inl e
theorem miter_body {g h : Aig} (t : Two g h) {s : List Bool} (hs : ((s.length + 1 : Nat) : Int) = g.first) :
    MI g (g.ands.length + h.ands.length + 4 * (pairsM g h).length) (miterS g h).1 ∧ (miterS g h).1.lit (miterS g h).2 = true ∧ at_ (miterS g h).1 s (miterS g h).2 = decide (outV g s ≠ outV h s) := by
  obtain ⟨b1, b2⟩ := bodyM_ok t hs
  have hpl := t.pairs
  have hf := t.few
  have ho := t.gg.outs
  have h8 := t.gg.eight
  have hlo := t.gg.lo
  have h0 : (bodyM g h).1.lit 0 = true := litN_iff.2 (by
    have := b1.mi.fine.lo
    unfold Aig.count; omega)
  obtain ⟨d1, d2, d3, d4⟩ := mov_diffs hs (pairsM g h) (g.ands.length + h.ands.length) (bodyM g h).1 0 b1.mi (pairs_lit t hs) h0 (by omega)
  refine ⟨d1, d3, ?_⟩
  show at_ _ s _ = _
  unfold miterS
  rw [d4]
  have hz : at_ (bodyM g h).1 s 0 = false := val_zero
  rw [hz, Bool.false_or]
  refine any_zip (lits g) (lits h) (by simp [lits_len, t.outs, t.flops]) (fun b hb => ?_) fun a ha => ?_
  · have hb' := lit_at (g := h) (n := s.length) (by rw [t.first]; exact hs) (t.hh.lits b hb)
    exact (mov_lit b1 hb'.1 (by omega)).2
  · have hm := m0_check t.gg.wf t.gg.check t.gg.eight
    exact at_ext hm hs b1.mi.ext (m0_lit (t.gg.lits a ha))
theorem miter_ok {g h : Aig} (t : Two g h) : Ok (miterM g h) ∧ (miterM g h).ins = g.ins ∧ (miterM g h).flops = List.replicate g.flops.length ⟨0, false⟩ ∧ (miterM g h).outs = [(miterS g h).2] ∧
    (miterM g h).ands.length ≤ 100 + 4 * (g.outs.length + g.flops.length) ∧ ∀ s : List Bool, ((s.length + 1 : Nat) : Int) = g.first → at_ (miterM g h) s (miterS g h).2 = decide (outV g s ≠ outV h s) := by
  have hlo := t.gg.lo
  have h8 := t.gg.eight
  have ho := t.gg.outs
  have hf := t.few
  have hpl := t.pairs
  have hsl : (((List.replicate (g.ins + g.flops.length).toNat false).length + 1 : Nat) : Int) = g.first := by unfold Aig.first; simp; omega
  obtain ⟨m1, m2, _⟩ := miter_body t hsl
  have hl := m1.len
  have hins : (miterM g h).ins = g.ins := m1.ext.ins
  have hfl : (miterM g h).flops = List.replicate g.flops.length ⟨0, false⟩ := m1.ext.flops
  have hcn : (miterM g h).count = (miterS g h).1.count := rfl
  have hc := m1.count
  have hk := m1.check
  have hw := wf_of m1.fine
  have lit_I : ∀ {m : Aig} {a : Int}, m.count ≤ 70000 → m.lit a = true → I64 a := fun hm ha => by
    have := litN_iff.1 ha
    exact ⟨by omega, by omega⟩
  have hwf : Wf (miterM g h) := ⟨hw.ins, hw.flops, hw.ands, by simp [miterM], hw.nexts, hw.gates, fun a ha => by
    have : a = (miterS g h).2 := by simpa [miterM] using ha
    rw [this]; exact lit_I (by omega) m2⟩
  have hchk : (miterM g h).check = 0 := by
    unfold Aig.check at hk ⊢
    split at hk
    · simp at hk
    · split at hk
      · simp at hk
      · split at hk
        · rename_i q1 q2 q3
          have p1 : ¬ (miterM g h).ins < 0 := by rw [hins]; omega
          have p2 : ¬ (65536 < (miterM g h).ins ∨ 65536 < (miterM g h).count ∨ 65536 < ((miterM g h).outs.length : Int)) := by
            rw [hins, hcn]
            show ¬ (_ ∨ _ ∨ 65536 < (([(miterS g h).2] : List Int).length : Int))
            simp only [List.length_cons, List.length_nil]; omega
          rw [if_neg p1, if_neg p2, if_pos]
          simp only [Aig.good, Bool.and_eq_true] at q3 ⊢
          refine ⟨⟨q3.1.1, q3.1.2⟩, ?_⟩
          simp only [Bool.not_eq_true', List.any_eq_false, Bool.not_eq_true, Bool.not_eq_false']
          intro a ha
          have : a = (miterS g h).2 := by simpa [miterM] using ha
          rw [this]
          show ¬ (miterS g h).1.lit (miterS g h).2 = false
          rw [m2]; simp
        · simp at hk
  refine ⟨⟨hwf, hchk, ?_, ?_, ?_⟩, hins, hfl, rfl, ?_, fun s hs => ?_⟩
  · rw [hins, hfl, List.length_replicate]; omega
  · show (miterS g h).1.ands.length ≤ 300
    omega
  · show [(miterS g h).2].length ≤ 20
    simp
  · show (miterS g h).1.ands.length ≤ _
    omega
  · exact (miter_body t hs).2.2
end Fil.Eqv

namespace Fil.Eqv
open Abs
open Bd (D T3 In T lookT oneW fstT)
theorem one_spec {n c : Nat} {b : D} {x : Int} (h : Good n c b) (i : In n b.2 0 x) :
    (x = 0 ∧ oneW b x = ([], false, 0) ∧ ∀ w : List Bool, w.length = n → lookT (T b x) w = false) ∨
    (x ≠ 0 ∧ ∃ w, oneW b x = (w, true, 0) ∧ w.length = n ∧ lookT (T b x) w = true ∧ fstT n (T b x) = some w ∧ ∀ u : List Bool, u.length = n → lookT (T b x) u = true → u = w ∨ ∃ p a d, w = p ++ false :: a ∧ u = p ++ true :: d) := by
  have hv : b.1.toNat = n := by rw [h.vars]; simp
  have hf : Bd.Fine b.1 b.2 := by rw [h.vars]; exact h.fine
  have hi : In b.1 b.2 0 x := by rw [h.vars]; exact i
  by_cases hx : x = 0
  · left
    subst hx
    refine ⟨rfl, ?_, fun w hw => ?_⟩
    · unfold oneW
      rw [Bd.ask_ok hf (by simp [Bd.in_out hi]), if_neg (by simp), if_pos rfl]
    · have : T b 0 = List.replicate (2 ^ w.length) false := by rw [hw, ← hv]; exact Bd.tab_zero ..
      rw [this, look_0]
  · right
    obtain ⟨w, h1, h2, h3⟩ := Bd.oneW_ok hf hi hx
    rw [hv] at h2 h3
    obtain ⟨k1, k2, k3⟩ := Bd.fst_spec n _ w h3
    exact ⟨hx, w, h1, h2, k2, h3, k3⟩
def nodeS (g h : Aig) : D × Int := ((forksS (miterM g h)).1, (forksS (miterM g h)).2.getD 0 0)
theorem node_ok {g h : Aig} (t : Two g h) {w : List Bool} (hw : ((w.length : Nat) : Int) = g.ins + g.flops.length) :
    Good w.length 2000 (nodeS g h).1 ∧ In w.length (nodeS g h).1.2 0 (nodeS g h).2 ∧ lookT (T (nodeS g h).1 (nodeS g h).2) w = decide (outV g w ≠ outV h w) := by
  obtain ⟨m1, m2, m3, m4, m5, m6⟩ := miter_ok t
  have hw' : ((w.length : Nat) : Int) = (miterM g h).ins + (miterM g h).flops.length := by rw [m2, m3, List.length_replicate]; exact hw
  have r := forks_rep m1 hw'
  have hl : 0 < (forksS (miterM g h)).2.length := by
    rw [r.len]
    simp [outV, lits, m4]
  have h8 := t.gg.eight
  have ho := t.gg.outs
  have hll : (lits (miterM g h)).length ≤ 9 := by
    rw [lits_len, m4, m3, List.length_replicate, List.length_singleton]
    have := t.gg.lo
    omega
  have hlo := t.gg.lo
  refine ⟨r.good.mono (by omega), r.inn _ (mem_getD hl), ?_⟩
  have := r.val 0 hl
  have hs : ((w.length + 1 : Nat) : Int) = g.first := by unfold Aig.first; omega
  have e : (outV (miterM g h) w).getD 0 false = at_ (miterM g h) w (miterS g h).2 := by
    simp [outV, lits, m4]
  rw [e, m6 w hs] at this
  exact this
def sameS (g h : Aig) : Bool × List Bool × List Bool :=
  if (nodeS g h).2 = 0 then (true, [], []) else (false, (oneW (nodeS g h).1 (nodeS g h).2).1.take g.ins.toNat, (oneW (nodeS g h).1 (nodeS g h).2).1.drop g.ins.toNat)
theorem zeros {n : Nat} : (List.replicate n false).length = n := by simp
theorem same_yes {g h : Aig} (t : Two g h) (hy : (nodeS g h).2 = 0) : oneW (nodeS g h).1 (nodeS g h).2 = ([], false, 0) ∧ ∀ w : List Bool, ((w.length : Nat) : Int) = g.ins + g.flops.length → outV g w = outV h w := by
  have hlo := t.gg.lo
  constructor
  · obtain ⟨k1, k2, k3⟩ := node_ok t (w := List.replicate (g.ins + g.flops.length).toNat false) (by rw [zeros]; omega)
    rcases one_spec k1 k2 with ⟨_, h2, _⟩ | ⟨h1, _⟩
    · exact h2
    · exact absurd hy h1
  · intro w hw
    obtain ⟨k1, k2, k3⟩ := node_ok t hw
    rcases one_spec k1 k2 with ⟨_, _, h2⟩ | ⟨h1, _⟩
    · rw [h2 w rfl] at k3
      simpa using k3.symm
    · exact absurd hy h1
theorem same_no {g h : Aig} (t : Two g h) (hy : (nodeS g h).2 ≠ 0) : ∃ w : List Bool, oneW (nodeS g h).1 (nodeS g h).2 = (w, true, 0) ∧ ((w.length : Nat) : Int) = g.ins + g.flops.length ∧ outV g w ≠ outV h w ∧
    (∀ u : List Bool, u.length = w.length → outV g u ≠ outV h u → u = w ∨ ∃ p a d, w = p ++ false :: a ∧ u = p ++ true :: d) ∧ fstT w.length (T (nodeS g h).1 (nodeS g h).2) = some w := by
  have hlo := t.gg.lo
  obtain ⟨k1, k2, _⟩ := node_ok t (w := List.replicate (g.ins + g.flops.length).toNat false) (by rw [zeros]; omega)
  rcases one_spec k1 k2 with ⟨h1, _⟩ | ⟨_, w, h1, h2, h3, h4, h5⟩
  · exact absurd h1 hy
  · rw [zeros] at h2
    have hw : ((w.length : Nat) : Int) = g.ins + g.flops.length := by omega
    have kw := (node_ok t hw).2.2
    rw [h3] at kw
    refine ⟨w, h1, hw, by simpa using kw, fun u hu hd => ?_, by rw [h2]; rw [zeros] at h4; exact h4⟩
    have ku := (node_ok t (w := u) (by rw [hu]; exact hw)).2.2
    refine h5 u (by rw [zeros]; omega) ?_
    rw [ku]; simpa using hd
theorem Two.symm {g h : Aig} (t : Two g h) : Two h g := ⟨t.hh, t.gg, t.ins.symm, t.flops.symm, t.outs.symm, by have := t.few; omega⟩
end Fil.Eqv

namespace Go.Proofs.Ytjichkelfhcbcaa
open Abs Fil
theorem sl_growInt (n : Int) (σ : Sig) (h0 : 0 < n) (hb1 : n * 8 ≤ 35184372088832) (hn2 : n ≤ 1000000000000) :
    ACalls Try.prog 82 [.slice [] .nil, .int .i64 n] σ (fun r σ' => ∃ o, σ o = none ∧ r = .ret (.slice [] (.own o)) ∧ σ' = upd σ o (.grow 1 0)) :=
  lib_grow (sz := 1) (bytes := 8) mixed Try.func82 b82 n82 rfl q82 n h0 (by simpa using hb1) hn2
theorem sl_growInt0 (σ : Sig) : ACalls Try.prog 82 [.slice [] .nil, .int .i64 0] σ (fun r σ' => r = .ret (.slice [] .nil) ∧ σ' = σ) :=
  lib_grow0 (sz := 1) (bytes := 8) mixed Try.func82 b82 n82 rfl q82
theorem sl_growFlop (n : Int) (σ : Sig) (h0 : 0 < n) (hb1 : n * 16 ≤ 35184372088832) (hn2 : n ≤ 1000000000000) :
    ACalls Try.prog 118 [.slice [] .nil, .int .i64 n] σ (fun r σ' => ∃ o, σ o = none ∧ r = .ret (.slice [] (.own o)) ∧ σ' = upd σ o (.grow 2 0)) :=
  lib_grow (sz := 2) (bytes := 16) mixed Try.func118 b118 n118 rfl q118 n h0 (by simpa using hb1) hn2
theorem sl_growFlop0 (σ : Sig) : ACalls Try.prog 118 [.slice [] .nil, .int .i64 0] σ (fun r σ' => r = .ret (.slice [] .nil) ∧ σ' = σ) :=
  lib_grow0 (sz := 2) (bytes := 16) mixed Try.func118 b118 n118 rfl q118
theorem no_list {P : Program} {f : FuncId} {args : List AV} {σ : Sig} {l : List AV} {sz n : Nat} (h : ACalls P f args σ (fun r σ' => (l = [] ∧ r = .ret (.slice [] .nil) ∧ σ' = σ) ∨ NewO σ (fun o => .slice l (.own o)) (.grow sz n) r σ')) :
    ACalls P f args σ (fun r σ' => r = .ret (.slice l .no) ∧ σ' = σ) := by
  refine h.view fun r s h => ?_
  rcases h with ⟨rfl, rfl, rfl⟩ | ⟨o, ho, rfl, rfl⟩
  · exact ⟨_, .slice [] .no, _, rfl, vr_of (by simp only [go_sem]) (by simp only [go_sem]), rfl, rfl⟩
  · exact ⟨_, .slice l .no, _, rfl, vr_of (by simp only [go_sem]) (by simp only [go_sem, ho, implies_true, ne_eq, not_true_eq_false, reduceCtorEq, not_false_eq_true]), rfl, rfl⟩
theorem sl_concatInt (ls : List (List Int)) (σ : Sig) (hlen : ls.length ≤ 1000000) (htot : ls.flatten.length ≤ 1000000000) :
    ACalls Try.prog 52 [.slice (ls.map (encRow encInt)) .no] σ (fun r σ' => r = .ret (.slice (ls.flatten.map encInt) .no) ∧ σ' = σ) := by
  refine no_list (sz := 1) (n := ls.flatten.length) ?_
  refine (lib_concat (sz := 1) (bytes := 8) mixed Try.func52 b52 n52 rfl q52 (fun _ => rfl) (fun σ n h1 h2 h3 => sl_growInt n σ h1 (by simpa using h2) h3) sl_growInt0 ls hlen htot (by decide)).mono fun r s h => ?_
  rcases h with ⟨h1, h2, h3⟩ | h
  · exact .inl ⟨by rw [h1]; rfl, h2, h3⟩
  · exact .inr h
theorem sl_concatFlop (ls : List (List Flop)) (σ : Sig) (hlen : ls.length ≤ 1000000) (htot : ls.flatten.length ≤ 1000000000) :
    ACalls Try.prog 97 [.slice (ls.map (encRow encFlop)) .no] σ (fun r σ' => r = .ret (.slice (ls.flatten.map encFlop) .no) ∧ σ' = σ) := by
  refine no_list (sz := 2) (n := ls.flatten.length) ?_
  refine (lib_concat (sz := 2) (bytes := 16) mixed Try.func97 b97 n97 rfl q97 (fun _ => rfl) (fun σ n h1 h2 h3 => sl_growFlop n σ h1 (by simpa using h2) h3) sl_growFlop0 ls hlen htot (by decide)).mono fun r s h => ?_
  rcases h with ⟨h1, h2, h3⟩ | h
  · exact .inl ⟨by rw [h1]; rfl, h2, h3⟩
  · exact .inr h
theorem sl_concat2 (a b : List Int) (σ : Sig) (h : a.length + b.length ≤ 1000000000) :
    ACalls Try.prog 52 [.slice [.slice (a.map encInt) .no, .slice (b.map encInt) .no] .no] σ (fun r σ' => r = .ret (.slice ((a ++ b).map encInt) .no) ∧ σ' = σ) := by
  have := sl_concatInt [a, b] σ (by simp) (by simpa using h)
  rw [show [a, b].flatten = a ++ b by simp] at this
  exact this
theorem sl_concatF1 (a : List Flop) (σ : Sig) (h : a.length ≤ 1000000000) :
    ACalls Try.prog 97 [.slice [.slice (a.map encFlop) .no] .no] σ (fun r σ' => r = .ret (.slice (a.map encFlop) .no) ∧ σ' = σ) := by
  have := sl_concatFlop [a] σ (by simp) (by simpa using h)
  rw [show [a].flatten = a by simp] at this
  exact this
theorem sl_cloneGate (l : List (Int × Int)) (σ : Sig) (h : l.length ≤ 1000000) :
    ACalls Try.prog 48 [.slice (l.map encGate) .no] σ (fun r σ' => r = .ret (.slice (l.map encGate) .no) ∧ σ' = σ) := by
  refine calls_x mixed Try.func48 b48 n48 rfl q48 (by simp) ?_; unfold c48 r48
  cases l with
  | nil =>
    repeat' (first | simp (maxDischargeDepth := 9) -implicitDefEqProofs -dsimp only [go_sem, seval, List.map_nil, *] | ((with_reducible refine Zv ?_ ?_); focus (first | omega | exact rfl)) | ((with_reducible refine Zt (fun oF hoF hnF hnF' => ?_)); (try simp only [upd_none, ne_eq, not_and] at hoF)))
    refine ⟨?_, ?_⟩
    · refine fin_eq ?_
      (repeat' (first | simp (maxDischargeDepth := 9) -implicitDefEqProofs -dsimp only [go_sem, seval, List.map_nil, *])) <;> (repeat' refine And.intro ?_ ?_) <;> (first | omega | rfl | assumption | skip)
    · refine fin_eq ?_
      (repeat' (first | simp (maxDischargeDepth := 9) -implicitDefEqProofs -dsimp only [go_sem, seval, List.map_nil, *])) <;> (repeat' refine And.intro ?_ ?_) <;> (first | omega | rfl | assumption | skip)
  | cons x l =>
    have h' : l.length ≤ 999999 := by simp only [List.length_cons] at h; omega
    repeat' (first | simp (maxDischargeDepth := 9) -implicitDefEqProofs -dsimp only [go_sem, seval, List.map_cons, *] | ((with_reducible refine Zv ?_ ?_); focus (first | omega | exact rfl)) | ((with_reducible refine Zt (fun oF hoF hnF hnF' => ?_)); (try simp only [upd_none, ne_eq, not_and] at hoF)))
    all_goals first | (exfalso; simp at hq; done) | skip
    refine fin_eq ?_
    (repeat' (first | simp (maxDischargeDepth := 9) -implicitDefEqProofs -dsimp only [go_sem, seval, List.map_cons, List.nil_append, *])) <;> (repeat' refine And.intro ?_ ?_) <;> (first | omega | rfl | assumption | skip)
theorem eq_next1 (f : Flop) (σ : Sig) : ACalls Try.prog 75 [encFlop f] σ (fun r σ' => r = .ret (.int .i64 f.next) ∧ σ' = σ) := by
  refine calls_x mixed Try.func75 b75 n75 rfl q75 (by simp) ?_; unfold c75 r75
  repeat' (first | simp (maxDischargeDepth := 9) -implicitDefEqProofs -dsimp only [go_sem, seval, *])
  refine fin_eq ?_
  (repeat' (first | simp (maxDischargeDepth := 9) -implicitDefEqProofs -dsimp only [go_sem, seval, *])) <;> (repeat' refine And.intro ?_ ?_) <;> (first | omega | rfl | assumption | skip)
theorem eq_eachF (l : List Flop) (σ : Sig) (h : l.length ≤ 1000000) :
    ACalls Try.prog 74 [.fn 75 [] [], .slice [.slice (l.map encFlop) .no] .no] σ (fun r σ' => r = .ret (.slice ((l.map (·.next)).map encInt) .no) ∧ σ' = σ) := by
  refine ACalls.virt (callable_of Try.func74 b74 n74) 1 (fun oV1 hoV1 hnV1 hnV1' => ?_); (try simp only [upd_none, ne_eq, not_and] at hoV1); refine calls_x mixed Try.func74 b74 n74 rfl q74 (by simp) ?_; unfold c74 r74
  repeat' (first | simp (maxDischargeDepth := 9) -implicitDefEqProofs -dsimp only [go_sem, seval, *] | simp (disch := omega) only [wrap64] | ((with_reducible refine Zv ?_ ?_); focus (first | omega | exact rfl)) | ((with_reducible refine Zu ?_ ?_); focus omega) | ((with_reducible refine Zt (fun oF hoF hnF hnF' => ?_)); (try simp only [upd_none, ne_eq, not_and] at hoF)) | ((with_reducible apply ACalls.one1); (focus ((first | with_reducible refine sl_concatF1 l _ ?_) <;> (first | (simp (maxDischargeDepth := 9) -implicitDefEqProofs -dsimp only [go_sem, seval, *]; done) | omega))); (focus (first | trivial | with_reducible exact rfl | (simp (maxDischargeDepth := 9) -implicitDefEqProofs -dsimp only [go_sem, seval]; done)))))
  refine loop_rule (fun i : Nat => [(10, some (.int .i64 i)), (9, some (.int .i64 l.length)), (8, some (.slice (l.map encFlop) .no)), (4, some (.slice (((l.map (·.next)).take i).map encInt) (.own oV1))), (0, some (.fn 75 [] []))])
    (fun i => upd σ oV1 (.grow 1 i)) (fun i => i ≤ l.length) (fun i => l.length - i) 0 ?_ ?_
  · (repeat' (first | simp (maxDischargeDepth := 9) -implicitDefEqProofs -dsimp only [go_sem, seval, *] | simp (disch := omega) only [wrap64])) <;> (repeat' refine And.intro ?_ ?_) <;> (first | omega | rfl | assumption | skip)
  · intro i hi
    by_cases hlt : i < l.length
    · have hs := take_succ (l := l.map (·.next)) (i := i) (by simpa using hlt)
      have hlen : ((l.map (·.next)).take i).length = i := by simp; omega
      repeat' (first | simp (maxDischargeDepth := 9) -implicitDefEqProofs -dsimp only [go_sem, seval, List.nil_append, List.append_nil, List.getElem_map, *] | simp (disch := omega) only [wrap64] | ((with_reducible refine Zv ?_ ?_); focus (first | omega | exact rfl)) | ((with_reducible refine Zu ?_ ?_); focus omega) | ((with_reducible refine Zt (fun oF hoF hnF hnF' => ?_)); (try simp only [upd_none, ne_eq, not_and] at hoF)) | ((with_reducible apply ACalls.one1); (focus ((first | with_reducible refine eq_next1 l[i] _) <;> (first | (simp (maxDischargeDepth := 9) -implicitDefEqProofs -dsimp only [go_sem, seval, *]; done) | omega))); (focus (first | trivial | with_reducible exact rfl | (simp (maxDischargeDepth := 9) -implicitDefEqProofs -dsimp only [go_sem, seval]; done)))))
      refine loop_next _ _ _ _ (i + 1) ?_; (repeat' (first | simp (maxDischargeDepth := 9) -implicitDefEqProofs -dsimp only [go_sem, seval,  List.map_append, List.map_cons, List.map_nil, List.getElem_map, *] | simp (disch := omega) only [wrap64])) <;> (repeat' refine And.intro ?_ ?_) <;> (first | omega | rfl | assumption | skip)
    · have e0 : (l.map (·.next)).take i = l.map (·.next) := List.take_of_length_le (by simp; omega)
      repeat' (first | simp (maxDischargeDepth := 9) -implicitDefEqProofs -dsimp only [go_sem, seval, *] | simp (disch := omega) only [wrap64] | ((with_reducible refine Zv ?_ ?_); focus (first | omega | exact rfl)) | ((with_reducible refine Zu ?_ ?_); focus omega) | ((with_reducible refine Zt (fun oF hoF hnF hnF' => ?_)); (try simp only [upd_none, ne_eq, not_and] at hoF)))
      refine fin_eq ?_
      (repeat' (first | simp (maxDischargeDepth := 9) -implicitDefEqProofs -dsimp only [go_sem, seval, *] | simp (disch := omega) only [wrap64])) <;> (repeat' refine And.intro ?_ ?_) <;> (first | omega | rfl | assumption | skip)
theorem eq_nexts (g : Aig) (σ : Sig) (h : g.flops.length ≤ 1000000) : ACalls Try.prog 42 [encAig g] σ (fun r σ' => r = .ret (.slice ((g.flops.map (·.next)).map encInt) .no) ∧ σ' = σ) := by
  refine calls_x mixed Try.func42 b42 n42 rfl q42 (by simp) ?_; unfold c42 r42
  repeat' (first | simp (maxDischargeDepth := 9) -implicitDefEqProofs -dsimp only [go_sem, seval, *] | ((with_reducible apply ACalls.one1); (focus ((first | with_reducible refine eq_eachF g.flops _ h | with_reducible refine ACalls.flA (eq_eachF g.flops _ h) ?_) <;> (first | (simp (maxDischargeDepth := 9) -implicitDefEqProofs -dsimp only [go_sem, seval, *]; done) | omega))); (focus (first | trivial | with_reducible exact rfl | (simp (maxDischargeDepth := 9) -implicitDefEqProofs -dsimp only [go_sem, seval]; done)))))
  refine fin_eq ?_
  (repeat' (first | simp (maxDischargeDepth := 9) -implicitDefEqProofs -dsimp only [go_sem, seval, *])) <;> (repeat' refine And.intro ?_ ?_) <;> (first | omega | rfl | assumption | skip)
end Go.Proofs.Ytjichkelfhcbcaa

namespace Go.Proofs.Ytjichkelfhcbcaa
open Abs Fil Fil.Eqv
open Bd (D encB encF)
abbrev makC (b : D) (nodes : List Int) (k : Tok) : AObj := .cells [.int .i64 b.1, .slice (b.2.map encF) .no, .slice (nodes.map encInt) k, .int .i64 0]
theorem upd_self {σ : Sig} {o : Nat} {x : AObj} (h : σ o = some x) : upd σ o x = σ := by
  funext i
  simp only [upd]
  split
  · rename_i e; subst e; exact h.symm
  · rfl
theorem eq_lit1 (o p m : Nat) (b : D) (nodes : List Int) (k : Tok) (f : Int) (σ : Sig) (h1 : σ o = some (.cells [.ptr m 0])) (h2 : σ p = some (.cells [.int .i64 f])) (h3 : σ m = some (makC b nodes k))
    (hl : b.2.length ≤ 9223372036854775807) (hr : Bd.Fine b.1 b.2 → b.2.length + 2 ^ (b.1.toNat + 1) ≤ 65537) {c : D} {x : Int} (hc : Bd.notW b f = (c, x, 0)) :
    ACalls Try.prog 70 [.ptr o 0, .ptr p 0] σ (fun r σ' => r = .ret (.tup [encB c.1 c.2, .int .i64 x, .int .i64 0]) ∧ σ' = σ) := by
  refine calls_x mixed Try.func70 b70 n70 rfl q70 (by simp) ?_; unfold c70 r70
  have hn := fun τ => B.bdd_Not b f τ hl hr
  rw [hc] at hn
  repeat' (first | simp (maxDischargeDepth := 9) -implicitDefEqProofs -dsimp only [go_sem, seval, *] | ((with_reducible refine Zt (fun oF hoF hnF hnF' => ?_)); (try simp only [upd_none, ne_eq, not_and] at hoF)) | ((with_reducible apply id_one0); (focus (intro tS hS; ((first | with_reducible refine hn _) <;> (first | (simp (maxDischargeDepth := 9) -implicitDefEqProofs -dsimp only [go_sem, seval, *]; done) | omega | ((with_reducible refine Sub.get hS ?_); simp (maxDischargeDepth := 9) -implicitDefEqProofs -dsimp only [go_sem, seval, *]; done))))); (focus (first | trivial | (simp (maxDischargeDepth := 9) -implicitDefEqProofs -dsimp only [go_sem, seval, *]; done)))))
  refine fin_eq ?_
  (repeat' (first | simp (maxDischargeDepth := 9) -implicitDefEqProofs -dsimp only [go_sem, seval, *])) <;> (repeat' refine And.intro ?_ ?_) <;> (first | omega | rfl | assumption | skip)
theorem eq_put (m : Nat) (k : Nat) (caps : List AV) (b c : D) (nodes : List Int) (t : Tok) (x : Int) (σ : Sig) (h : σ m = some (makC b nodes t))
    (hc : ACalls Try.prog k caps σ (fun r σ' => r = .ret (.tup [encB c.1 c.2, .int .i64 x, .int .i64 0]) ∧ σ' = σ)) :
    ACalls Try.prog 35 [.ptr m 0, .fn k [] caps] σ (fun r σ' => r = .ret (.int .i64 x) ∧ σ' = upd σ m (makC c nodes t)) := by
  refine calls_x mixed Try.func35 b35 n35 rfl q35 (by simp) ?_; unfold c35 r35
  have ez : ((0 : Int) != 0) = false := by decide
  repeat' (first | simp (maxDischargeDepth := 9) -implicitDefEqProofs -dsimp only [go_sem, seval, List.nil_append, *] | ((with_reducible refine Zt (fun oF hoF hnF hnF' => ?_)); (try simp only [upd_none, ne_eq, not_and] at hoF)) | ((with_reducible apply ACalls.one1); (focus ((first | with_reducible refine hc) <;> (first | (simp (maxDischargeDepth := 9) -implicitDefEqProofs -dsimp only [go_sem, seval, *]; done) | omega))); (focus (first | trivial | with_reducible exact rfl | (simp (maxDischargeDepth := 9) -implicitDefEqProofs -dsimp only [go_sem, seval]; done)))))
  refine fin_eq ?_
  (repeat' (first | simp (maxDischargeDepth := 9) -implicitDefEqProofs -dsimp only [go_sem, seval, *])) <;> (repeat' refine And.intro ?_ ?_) <;> (first | omega | rfl | assumption | skip)
theorem eq_lit (m : Nat) (b : D) (nodes : List Int) (t : Tok) (l : Int) (σ : Sig) (h : σ m = some (makC b nodes t)) (h0 : 0 ≤ l) (h1 : (l / 2).toNat < nodes.length) (hl64 : l ≤ 4611686018427387904)
    (hl : b.2.length ≤ 9223372036854775807) (hr : Bd.Fine b.1 b.2 → b.2.length + 2 ^ (b.1.toNat + 1) ≤ 65537) (hok : l % 2 ≠ 0 → Bd.notW b (nodes.getD (l / 2).toNat 0) = ((litM b nodes l).1, (litM b nodes l).2, 0)) :
    ACalls Try.prog 38 [.ptr m 0, .int .i64 l] σ (fun r σ' => r = .ret (.int .i64 (litM b nodes l).2) ∧ σ' = upd σ m (makC (litM b nodes l).1 nodes t)) := by
  refine calls_x mixed Try.func38 b38 n38 rfl q38 (by simp) ?_; unfold c38 r38
  have hg : nodes[(l / 2).toNat] = nodes.getD (l / 2).toNat 0 := by simp [List.getD_eq_getElem?_getD, h1]
  obtain ⟨f, hf⟩ : ∃ f, nodes.getD (l / 2).toNat 0 = f := ⟨_, rfl⟩
  rw [hf] at hg
  by_cases c : l % 2 = 0
  · have hw : litM b nodes l = (b, f) := by unfold litM; rw [if_pos c, hf]
    rw [hw]
    rw [upd_self h]
    clear hok hw
    repeat' (first | simp (maxDischargeDepth := 9) -implicitDefEqProofs -dsimp only [go_sem, seval, *] | simp (disch := omega) only [and1, shr1'] | ((with_reducible refine Zv ?_ ?_); focus (first | omega | exact rfl)) | ((with_reducible refine Zu ?_ ?_); focus omega) | ((with_reducible refine Zt (fun oF hoF hnF hnF' => ?_)); (try simp only [upd_none, ne_eq, not_and] at hoF)))
    refine fin_eq ?_
    (repeat' (first | simp (maxDischargeDepth := 9) -implicitDefEqProofs -dsimp only [go_sem, seval, *] | simp (disch := omega) only [and1, shr1'])) <;> (repeat' refine And.intro ?_ ?_) <;> (first | omega | rfl | assumption | skip)
  · have c1 : l % 2 = 1 := by omega
    have ho := hok c
    rw [hf] at ho
    obtain ⟨⟨d, x⟩, hd⟩ : ∃ p, litM b nodes l = p := ⟨_, rfl⟩
    rw [hd] at ho ⊢
    clear hok hd
    repeat' (first | simp (maxDischargeDepth := 9) -implicitDefEqProofs -dsimp only [go_sem, seval, *] | simp (disch := omega) only [and1, shr1'] | ((with_reducible refine Zv ?_ ?_); focus (first | omega | exact rfl)) | ((with_reducible refine Zu ?_ ?_); focus omega) | ((with_reducible refine Zt (fun oF hoF hnF hnF' => ?_)); (try simp only [upd_none, ne_eq, not_and] at hoF)))
    rename_i oA hA nA nA'
    repeat' (first | simp (maxDischargeDepth := 9) -implicitDefEqProofs -dsimp only [go_sem, seval, *] | simp (disch := omega) only [and1, shr1'] | ((with_reducible refine Zv ?_ ?_); focus (first | omega | exact rfl)) | ((with_reducible refine Zu ?_ ?_); focus omega) | ((with_reducible refine Zt (fun oF hoF hnF hnF' => ?_)); (try simp only [upd_none, ne_eq, not_and] at hoF)) | ((with_reducible apply ACalls.one1); (focus ((first | with_reducible refine eq_put m 70 [.ptr oA 0, .ptr oF 0] b d nodes t x _ ?_ (eq_lit1 oA oF m b nodes t f _ ?_ ?_ ?_ hl hr ho)) <;> (first | (simp (maxDischargeDepth := 9) -implicitDefEqProofs -dsimp only [go_sem, seval, *]; done) | omega))); (focus (first | trivial | with_reducible exact rfl | (simp (maxDischargeDepth := 9) -implicitDefEqProofs -dsimp only [go_sem, seval]; done)))))
    refine fin_eq ?_
    (repeat' (first | simp (maxDischargeDepth := 9) -implicitDefEqProofs -dsimp only [go_sem, seval, *] | simp (disch := omega) only [and1, shr1'])) <;> (repeat' refine And.intro ?_ ?_) <;> (first | omega | rfl | assumption | skip)
theorem eq_var1 (o p m : Nat) (b : D) (nodes : List Int) (k : Tok) (i : Int) (σ : Sig) (h1 : σ o = some (.cells [.ptr m 0])) (h2 : σ p = some (.cells [.int .i64 i])) (h3 : σ m = some (makC b nodes k))
    (hl : b.2.length ≤ 9223372036854775807) (hr : Bd.Fine b.1 b.2 → b.2.length < 65536) {c : D} {x : Int} (hc : Bd.varW b i = (c, x, 0)) :
    ACalls Try.prog 36 [.ptr o 0, .ptr p 0] σ (fun r σ' => r = .ret (.tup [encB c.1 c.2, .int .i64 x, .int .i64 0]) ∧ σ' = σ) := by
  refine calls_x mixed Try.func36 b36 n36 rfl q36 (by simp) ?_; unfold c36 r36
  have hn := fun τ => B.bdd_Var b i τ hl hr
  rw [hc] at hn
  repeat' (first | simp (maxDischargeDepth := 9) -implicitDefEqProofs -dsimp only [go_sem, seval, *] | ((with_reducible refine Zt (fun oF hoF hnF hnF' => ?_)); (try simp only [upd_none, ne_eq, not_and] at hoF)) | ((with_reducible apply id_one0); (focus (intro tS hS; ((first | with_reducible refine hn _) <;> (first | (simp (maxDischargeDepth := 9) -implicitDefEqProofs -dsimp only [go_sem, seval, *]; done) | omega | ((with_reducible refine Sub.get hS ?_); simp (maxDischargeDepth := 9) -implicitDefEqProofs -dsimp only [go_sem, seval, *]; done))))); (focus (first | trivial | (simp (maxDischargeDepth := 9) -implicitDefEqProofs -dsimp only [go_sem, seval, *]; done)))))
  refine fin_eq ?_
  (repeat' (first | simp (maxDischargeDepth := 9) -implicitDefEqProofs -dsimp only [go_sem, seval, *])) <;> (repeat' refine And.intro ?_ ?_) <;> (first | omega | rfl | assumption | skip)
theorem eq_ite1 (o p q m : Nat) (b : D) (nodes : List Int) (k : Tok) (f g : Int) (σ : Sig) (h1 : σ o = some (.cells [.ptr m 0])) (h2 : σ p = some (.cells [.int .i64 f])) (h2' : σ q = some (.cells [.int .i64 g])) (h3 : σ m = some (makC b nodes k))
    (hl : b.2.length ≤ 9223372036854775807) (hr : Bd.Fine b.1 b.2 → b.2.length + 2 ^ (b.1.toNat + 1) ≤ 65537) {c : D} {x : Int} (hc : Bd.iteW b f g 0 = (c, x, 0)) :
    ACalls Try.prog 39 [.ptr o 0, .ptr p 0, .ptr q 0] σ (fun r σ' => r = .ret (.tup [encB c.1 c.2, .int .i64 x, .int .i64 0]) ∧ σ' = σ) := by
  refine calls_x mixed Try.func39 b39 n39 rfl q39 (by simp) ?_; unfold c39 r39
  have hn := fun τ => B.bdd_Ite b f g 0 τ hl hr
  rw [hc] at hn
  repeat' (first | simp (maxDischargeDepth := 9) -implicitDefEqProofs -dsimp only [go_sem, seval, *] | ((with_reducible refine Zt (fun oF hoF hnF hnF' => ?_)); (try simp only [upd_none, ne_eq, not_and] at hoF)) | ((with_reducible apply id_one0); (focus (intro tS hS; ((first | with_reducible refine hn _) <;> (first | (simp (maxDischargeDepth := 9) -implicitDefEqProofs -dsimp only [go_sem, seval, *]; done) | omega | ((with_reducible refine Sub.get hS ?_); simp (maxDischargeDepth := 9) -implicitDefEqProofs -dsimp only [go_sem, seval, *]; done))))); (focus (first | trivial | (simp (maxDischargeDepth := 9) -implicitDefEqProofs -dsimp only [go_sem, seval, *]; done)))))
  refine fin_eq ?_
  (repeat' (first | simp (maxDischargeDepth := 9) -implicitDefEqProofs -dsimp only [go_sem, seval, *])) <;> (repeat' refine And.intro ?_ ?_) <;> (first | omega | rfl | assumption | skip)
end Go.Proofs.Ytjichkelfhcbcaa

namespace Go.Proofs.Ytjichkelfhcbcaa
open Abs Fil Fil.Eqv
open Bd (D encB encF)
theorem eq_each (o k : Nat) (first caps : List AV) (a b L : List Int) (X : Nat → AObj) (σ : Sig) (h0 : σ o = some (X 0)) (hL : L.length = a.length + b.length) (hl : a.length + b.length ≤ 1000000)
    (hc : ∀ i (hi : i < (a ++ b).length) (τ : Sig), τ o = some (X i) → ACalls Try.prog k (first ++ [.int .i64 (a ++ b)[i]] ++ caps) τ (fun r s => r = .ret (.int .i64 (L.getD i 0)) ∧ s = upd τ o (X (i + 1)))) :
    ACalls Try.prog 41 [.fn k first caps, .slice [.slice (a.map encInt) .no, .slice (b.map encInt) .no] .no] σ (fun r σ' => r = .ret (.slice (L.map encInt) .no) ∧ σ' = upd σ o (X (a.length + b.length))) := by
  refine ACalls.virt (callable_of Try.func41 b41 n41) 1 (fun oV1 hoV1 hnV1 hnV1' => ?_); (try simp only [upd_none, ne_eq, not_and] at hoV1); refine calls_x mixed Try.func41 b41 n41 rfl q41 (by simp) ?_; unfold c41 r41
  have hn0 : ¬ σ o = none := by rw [h0]; simp
  have ho1 : ¬ o = oV1 := hnV1 o hn0
  have ho2 : ¬ oV1 = o := hnV1' o hn0
  have hcat := fun τ => sl_concat2 a b τ (by omega)
  have hab : (a ++ b).length = a.length + b.length := List.length_append
  obtain ⟨l, hll⟩ : ∃ l, a ++ b = l := ⟨_, rfl⟩
  rw [hll] at hab hc hcat
  obtain ⟨n, hn⟩ : ∃ n, a.length + b.length = n := ⟨_, rfl⟩
  rw [hn] at hab hL hl ⊢
  have hab' : l.length ≤ n ∧ n ≤ l.length := by omega
  have hL' : L.length ≤ n ∧ n ≤ L.length := by omega
  have hn1 : (l.length : Int) = n := by omega
  clear hab hL hll hn
  repeat' (first | simp (maxDischargeDepth := 9) -implicitDefEqProofs -dsimp only [go_sem, seval, *] | simp (disch := omega) only [wrap64] | ((with_reducible refine Zv ?_ ?_); focus (first | omega | exact rfl)) | ((with_reducible refine Zu ?_ ?_); focus omega) | ((with_reducible apply ACalls.one1); (focus ((first | with_reducible refine hcat _) <;> (first | (simp (maxDischargeDepth := 9) -implicitDefEqProofs -dsimp only [go_sem, seval, *]; done) | omega))); (focus (first | trivial | with_reducible exact rfl | (simp (maxDischargeDepth := 9) -implicitDefEqProofs -dsimp only [go_sem, seval]; done)))))
  refine loop_rule (fun i : Nat => [(10, some (.int .i64 i)), (9, some (.int .i64 n)), (8, some (.slice (l.map encInt) .no)), (4, some (.slice ((L.take i).map encInt) (.own oV1))), (0, some (.fn k first caps))])
    (fun i => upd (upd σ oV1 (.grow 1 i)) o (X i)) (fun i => i ≤ n) (fun i => n - i) 0 ?_ ?_
  · (repeat' (first | simp (maxDischargeDepth := 9) -implicitDefEqProofs -dsimp only [go_sem, seval, *] | simp (disch := omega) only [wrap64])) <;> (repeat' refine And.intro ?_ ?_) <;> (first | omega | rfl | assumption | skip)
  · intro i hi
    by_cases hlt : i < n
    · have hlt' : (i : Int) < n := by omega
      have hli : i < l.length := by omega
      have hs : L.take (i + 1) = L.take i ++ [L.getD i 0] := by
        have hLi : i < L.length := by omega
        rw [List.take_add_one, List.getElem?_eq_getElem hLi]
        simp [List.getD_eq_getElem?_getD, hLi]
      have hlen : (L.take i).length = i := by simp; omega
      have hci := fun τ => hc i hli τ
      clear hc hcat
      repeat' (first | simp (maxDischargeDepth := 9) -implicitDefEqProofs -dsimp only [go_sem, seval, *] | simp (disch := omega) only [wrap64] | ((with_reducible refine Zv ?_ ?_); focus (first | omega | exact rfl)) | ((with_reducible refine Zu ?_ ?_); focus omega) | ((with_reducible apply ACalls.one1); (focus ((first | with_reducible refine hci _ ?_) <;> (first | (simp (maxDischargeDepth := 9) -implicitDefEqProofs -dsimp only [go_sem, seval, *]; done) | omega))); (focus (first | trivial | with_reducible exact rfl | (simp (maxDischargeDepth := 9) -implicitDefEqProofs -dsimp only [go_sem, seval]; done)))))
      refine loop_next _ _ _ _ (i + 1) ?_; (repeat' (first | simp (maxDischargeDepth := 9) -implicitDefEqProofs -dsimp only [go_sem, seval,  List.map_append, List.map_cons, List.map_nil, *] | simp (disch := omega) only [wrap64])) <;> (repeat' refine And.intro ?_ ?_) <;> (first | omega | rfl | assumption | skip)
    · have e1 : i = n := by omega
      subst e1
      have hlt' : ¬ (i : Int) < i := by omega
      have e0 : L.take i = L := List.take_of_length_le (by omega)
      clear hc
      repeat' (first | simp (maxDischargeDepth := 9) -implicitDefEqProofs -dsimp only [go_sem, seval, *] | simp (disch := omega) only [wrap64] | ((with_reducible refine Zv ?_ ?_); focus (first | omega | exact rfl)) | ((with_reducible refine Zu ?_ ?_); focus omega))
      refine fin_eq ?_
      (repeat' (first | simp (maxDischargeDepth := 9) -implicitDefEqProofs -dsimp only [go_sem, seval, *] | simp (disch := omega) only [wrap64])) <;> (repeat' refine And.intro ?_ ?_) <;> (first | omega | rfl | assumption | skip)
end Go.Proofs.Ytjichkelfhcbcaa

