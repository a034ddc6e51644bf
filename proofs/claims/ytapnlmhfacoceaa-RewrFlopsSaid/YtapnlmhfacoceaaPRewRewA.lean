/- rewr: contracts of what works on gates that are built. -/
import Derived.Test.YtapnlmhfacoceaaPAigLaws
set_option linter.unusedSimpArgs false
set_option linter.unusedVariables false
namespace Fil
open Abs
def Res (g : Aig) (n : Nat) (l : List Int) (r : Aig × Int × Int) : Prop :=
 (r.2.2 = 0 ∧ g.check = 0 ∧ (∀ a ∈ l, g.lit a = true) ∧ Fine r.1 ∧ Ext g r.1 ∧ r.1.lit r.2.1 = true ∧ r.1.ands.length ≤ g.ands.length + n) ∨ (r.2.2 ≠ 0 ∧ r.1 = ⟨0, [], [], []⟩ ∧ r.2.1 = 0)
theorem andO_len {g g' : Aig} {p q x : Int} (h : g.andO p q = some (g', x)) : g'.ands.length ≤ g.ands.length + 1 := by
 unfold Aig.andO at h
 simp only at h
 split at h
 ·simp at h; obtain ⟨rfl, _⟩ := h; omega
 ·split at h
  ·simp at h; obtain ⟨rfl, _⟩ := h; omega
  ·split at h
   ·simp at h; obtain ⟨rfl, _⟩ := h; omega
   ·split at h
    ·simp at h
    ·simp at h; obtain ⟨rfl, _⟩ := h; simp
theorem andW_len (g : Aig) (e p q : Int) : (g.andW e p q).1.ands.length ≤ g.ands.length + 1 := by
 unfold Aig.andW
 split
 ·simp
 ·cases h : g.andO p q with
  | none => simp
  | some r => exact andO_len h
theorem and_res {g : Aig} (hs : Wf g) (a b : Int) : Res g 1 [a, b] (g.And a b) := by
 unfold Aig.And
 have hk : g.checkL g.check [a, b] = 0 → Fine g ∧ g.lit a = true ∧ g.lit b = true := fun h => by
  obtain ⟨h1, h2⟩ := checkL_fine hs h
  exact ⟨h1, h2 _ (by simp), h2 _ (by simp)⟩
 have ok := andW_ok hk
 by_cases h : (g.andW (g.checkL g.check [a, b]) a b).2.1 = 0
 ·left
  rw [endW_ok h]
  have h0 := andW_err h
  obtain ⟨k1, k2⟩ := hk h0
  exact ⟨rfl, (checkL_zero.1 h0).1, (checkL_zero.1 h0).2, (ok.1 h).1, ok.2.1, (ok.1 h).2, andW_len _ _ _ _⟩
 ·right
  rw [endW_err h]
  exact ⟨h, rfl, rfl⟩
theorem zero_wf : Wf ⟨0, [], [], []⟩ := ⟨by simp [I64], by simp, by simp, by simp, by simp, by simp, by simp⟩
theorem Res.wf {g : Aig} {n : Nat} {l : List Int} {r : Aig × Int × Int} (h : Res g n l r) : Wf r.1 ∧ I64 r.2.1 := by
 rcases h with ⟨_, _, _, h, _, hl, _⟩ | ⟨_, h, h'⟩
 ·have := litN_iff.1 hl
  have := h.cnt
  exact ⟨h.toWf, by omega, by omega⟩
 ·rw [h, h']; exact ⟨zero_wf, by simp [I64]⟩
end Fil

namespace Fil
open Abs
theorem ext_check {g h : Aig} (hs : Wf g) (hc : g.check = 0) (hx : Ext g h) (hf : Fine h) : h.check = 0 := by
 have hcn := hf.cnt
 have hlo := hf.lo
 unfold Aig.check at hc ⊢
 split at hc
 ·simp at hc
 ·split at hc
  ·simp at hc
  ·split at hc
   ·rename_i h1 h2 h3
    rw [if_neg (by omega), if_neg (by rw [hx.ins, hx.outs]; omega), if_pos]
    simp only [Aig.good, Bool.and_eq_true, Bool.not_eq_true', List.any_eq_false, Bool.not_eq_true, Bool.not_eq_false'] at h3 ⊢
    refine ⟨⟨hf.gok, fun f hm => ?_⟩, fun a hm => ?_⟩
    ·rw [hx.flops] at hm; exact fun hn => by have := hx.lit (by simpa using h3.1.2 f hm : g.lit f.next = true); rw [hn] at this; simp at this
    ·rw [hx.outs] at hm; exact fun hn => by have := hx.lit (by simpa using h3.2 a hm : g.lit a = true); rw [hn] at this; simp at this
   ·simp at hc
theorem Res.check {g : Aig} (hs : Wf g) {n : Nat} {l : List Int} {r : Aig × Int × Int} (h : Res g n l r) (h0 : r.2.2 = 0) : r.1.check = 0 ∧ Fine r.1 ∧ Ext g r.1 ∧ r.1.lit r.2.1 = true ∧ r.1.ands.length ≤ g.ands.length + n ∧ (∀ a ∈ l, g.lit a = true) ∧ g.check = 0 := by
 rcases h with ⟨_, hc, hl, hf, hx, hl', hn⟩ | ⟨h, _⟩
 ·exact ⟨ext_check hs hc hx hf, hf, hx, hl', hn, hl, hc⟩
 ·exact (h h0).elim
theorem Res.checkL {g : Aig} (hs : Wf g) {n : Nat} {l m : List Int} {r : Aig × Int × Int} (h : Res g n l r) (h0 : r.2.2 = 0) (hm : ∀ a ∈ m, a ∈ l) : r.1.checkL r.1.check m = 0 := by
 obtain ⟨h1, _, hx, _, _, hl, _⟩ := h.check hs h0
 exact checkL_zero.2 ⟨h1, fun a ha => hx.lit (hl a (hm a ha))⟩
end Fil

namespace Fil
open Abs
theorem vals_prefix : ∀ (l : List (Int × Int)) (v : List Bool), ∃ m, Aig.vals v l = v ++ m
 | [], v => ⟨[], by simp [Aig.vals]⟩
 | x :: l, v => by
  obtain ⟨m, hm⟩ := vals_prefix l (v ++ [Aig.val v x.1 && Aig.val v x.2])
  exact ⟨_ :: m, by rw [Aig.vals, hm, List.append_assoc]; rfl⟩
theorem val_app {v m : List Bool} {a : Int} (h : (a / 2).toNat < v.length) : Aig.val (v ++ m) a = Aig.val v a := by
 unfold Aig.val
 rw [List.getD_eq_getElem?_getD, List.getD_eq_getElem?_getD, List.getElem?_append_left h]
theorem val_turn {v : List Bool} {a : Int} (h : 0 ≤ a) : Aig.val v (turn a) = !Aig.val v a := by
 unfold Aig.val
 have e : (turn a / 2).toNat = (a / 2).toNat := by unfold turn; omega
 rw [e]
 by_cases h1 : a % 2 = 1
 ·have h2 : ¬ turn a % 2 = 1 := by unfold turn; omega
  cases v.getD (a / 2).toNat false <;> simp [h1, h2]
 ·have h2 : turn a % 2 = 1 := by unfold turn; omega
  cases v.getD (a / 2).toNat false <;> simp [h1, h2]
section
variable {s : List Bool}
theorem V_length {g : Aig} (hf : Fine g) (hb : ((s.length + 1 : Nat) : Int) = g.first) : ((Aig.vals (false :: s) g.ands).length : Int) = 1 + g.count := by
 rw [vals_length, count_first, List.length_cons]; omega
theorem V_ext {g h : Aig} (hx : Ext g h) : ∃ m, Aig.vals (false :: s) h.ands = Aig.vals (false :: s) g.ands ++ m := by
 obtain ⟨_, _, _, l, e⟩ := hx
 rw [e, vals_append]
 exact vals_prefix _ _
theorem val_ext {g h : Aig} (hf : Fine g) (hb : ((s.length + 1 : Nat) : Int) = g.first) (hx : Ext g h) {a : Int} (ha : g.lit a = true) : Aig.val (Aig.vals (false :: s) h.ands) a = Aig.val (Aig.vals (false :: s) g.ands) a := by
 obtain ⟨m, e⟩ := V_ext (s := s) hx
 rw [e, val_app]
 have := V_length hf hb
 have := litN_iff.1 ha
 omega
theorem val_zero {g : Aig} : Aig.val (Aig.vals (false :: s) g.ands) 0 = false := by
 obtain ⟨m, e⟩ := vals_prefix g.ands (false :: s)
 rw [e]; rfl
theorem val_one {g : Aig} : Aig.val (Aig.vals (false :: s) g.ands) 1 = true := by
 obtain ⟨m, e⟩ := vals_prefix g.ands (false :: s)
 rw [e]; rfl
theorem idxF_get {α : Type} (p : α → Bool) : ∀ (l : List α), 0 ≤ idxF p l → ∃ h : (idxF p l).toNat < l.length, p l[(idxF p l).toNat] = true
 | [], h => by simp [idxF] at h
 | a :: l, h => by
  by_cases hp : p a = true
  ·have e : idxF p (a :: l) = 0 := by simp [idxF, hp]
   simp [e, hp]
  ·by_cases h' : idxF p l < 0
   ·have e : idxF p (a :: l) = -1 := by simp [idxF, hp, h']
    omega
   ·have e : idxF p (a :: l) = idxF p l + 1 := by simp [idxF, hp, h']
    obtain ⟨k, hk⟩ := idxF_get p l (by omega)
    have e2 : (idxF p (a :: l)).toNat = (idxF p l).toNat + 1 := by omega
    have k2 : (idxF p (a :: l)).toNat < (a :: l).length := by rw [e2, List.length_cons]; omega
    refine ⟨k2, ?_⟩
    simp only [e2, List.getElem_cons_succ]
    exact hk
theorem gate_val {g : Aig} (hf : Fine g) (hb : ((s.length + 1 : Nat) : Int) = g.first) {i : Nat} (hi : i < g.ands.length) :
  Aig.val (Aig.vals (false :: s) g.ands) (2 * (g.first + i)) = (Aig.val (Aig.vals (false :: s) g.ands) g.ands[i].1 && Aig.val (Aig.vals (false :: s) g.ands) g.ands[i].2) := by
 have hg := gatesOk_iff.1 hf.gok i hi
 have st := vals_step (v := false :: s) hi
 have ln := vals_len (v := false :: s) (l := g.ands) (i := i) (by omega)
 have sp : g.ands = g.ands.take (i + 1) ++ g.ands.drop (i + 1) := (List.take_append_drop _ _).symm
 have sp' : g.ands = g.ands.take i ++ g.ands.drop i := (List.take_append_drop _ _).symm
 obtain ⟨m, e⟩ := vals_prefix (g.ands.drop (i + 1)) (Aig.vals (false :: s) (g.ands.take (i + 1)))
 obtain ⟨m', e'⟩ := vals_prefix (g.ands.drop i) (Aig.vals (false :: s) (g.ands.take i))
 rw [← vals_append, ← sp, st] at e
 rw [← vals_append, ← sp'] at e'
 rw [List.length_cons] at ln
 have a1 : (g.ands[i].1 / 2).toNat < (Aig.vals (false :: s) (g.ands.take i)).length := by omega
 have a2 : (g.ands[i].2 / 2).toNat < (Aig.vals (false :: s) (g.ands.take i)).length := by omega
 have q1 : Aig.val (Aig.vals (false :: s) g.ands) g.ands[i].1 = Aig.val (Aig.vals (false :: s) (g.ands.take i)) g.ands[i].1 := by rw [e', val_app a1]
 have q2 : Aig.val (Aig.vals (false :: s) g.ands) g.ands[i].2 = Aig.val (Aig.vals (false :: s) (g.ands.take i)) g.ands[i].2 := by rw [e', val_app a2]
 rw [q1, q2, e]
 have ix : (2 * (g.first + i) / 2).toNat = (Aig.vals (false :: s) (g.ands.take i)).length := by omega
 have od : ¬ (2 * (g.first + (i : Int))) % 2 = 1 := by omega
 unfold Aig.val
 rw [ix, List.getD_eq_getElem?_getD, List.append_assoc, List.getElem?_append_right (Nat.le_refl _)]
 simp [od]
theorem min_max_val {v : List Bool} {p q : Int} : (Aig.val v (min p q) && Aig.val v (max p q)) = (Aig.val v p && Aig.val v q) := by
 rcases Int.le_total p q with h | h
 ·rw [Int.min_eq_left h, Int.max_eq_right h]
 ·rw [Int.min_eq_right h, Int.max_eq_left h, Bool.and_comm]
theorem andO_val {g h : Aig} {p q x : Int} (hf : Fine g) (hb : ((s.length + 1 : Nat) : Int) = g.first) (hp : g.lit p = true) (hq : g.lit q = true) (ho : g.andO p q = some (h, x)) :
  Aig.val (Aig.vals (false :: s) h.ands) x = (Aig.val (Aig.vals (false :: s) g.ands) p && Aig.val (Aig.vals (false :: s) g.ands) q) := by
 have hp' := litN_iff.1 hp
 have hq' := litN_iff.1 hq
 rw [← min_max_val]
 unfold Aig.andO at ho
 simp only at ho
 split at ho
 ·rename_i c
  simp at ho; obtain ⟨rfl, rfl⟩ := ho
  rw [val_zero]
  rcases c with c | c
  ·rw [c, val_zero]; rfl
  ·rw [c, val_turn (by omega)]; cases Aig.val (Aig.vals (false :: s) g.ands) (max p q) <;> rfl
 ·split at ho
  ·rename_i c
   simp at ho; obtain ⟨rfl, rfl⟩ := ho
   rcases c with c | c
   ·rw [c, val_one, Bool.true_and]
   ·rw [c, Bool.and_self]
  ·split at ho
   ·rename_i c
    simp at ho; obtain ⟨rfl, rfl⟩ := ho
    obtain ⟨k, hk⟩ := idxF_get _ _ c
    have e := gate_val (s := s) hf hb k
    have e2 : (((g.find (min p q) (max p q)).toNat : Nat) : Int) = g.find (min p q) (max p q) := by omega
    have e4 : (((idxF (fun x : Int × Int => decide (min x.1 x.2 = min p q) && decide (max x.1 x.2 = max p q)) g.ands).toNat : Nat) : Int) = g.find (min p q) (max p q) := e2
    rw [e4] at e
    rw [e, ← min_max_val]
    simp only [Bool.and_eq_true, decide_eq_true_eq] at hk
    rw [hk.1, hk.2]
   ·split at ho
    ·simp at ho
    ·simp at ho; obtain ⟨rfl, rfl⟩ := ho
     have ln := V_length (s := s) hf hb
     have ix : (2 * (g.count + 1) / 2).toNat = (Aig.vals (false :: s) g.ands).length := by omega
     have od : ¬ (2 * (g.count + 1)) % 2 = 1 := by omega
     simp only [vals_snoc]
     generalize hv : (Aig.val (Aig.vals (false :: s) g.ands) (min p q) && Aig.val (Aig.vals (false :: s) g.ands) (max p q)) = w
     unfold Aig.val
     rw [ix, List.getD_eq_getElem?_getD, List.getElem?_append_right (Nat.le_refl _)]
     simp [od]
end
def Aig.value (g : Aig) (a : Int) (inp st : List Bool) : Bool := Aig.val (Aig.vals (false :: (inp ++ st)) g.ands) a
section
variable {g : Aig} {a b c : Int} {inp st : List Bool} (hs : Wf g) (l1 : (inp.length : Int) = g.ins) (l2 : st.length = g.flops.length)
include hs l1 l2
end
end Fil

namespace Fil.Eqv
open Bd (D T3 In T varW notW iteW opW askE)
structure Good (n c : Nat) (b : D) : Prop where
 vars : b.1 = n
 few : n ≤ 8
 fine : Bd.Fine n b.2
 ups : Bd.ups n 3 b.2 ≤ 31 * c
theorem Good.len {n c : Nat} {b : D} (h : Good n c b) : b.2.length ≤ 278 + 31 * c := by
 have := Bd.len_ups h.fine.toOk 3
 have := h.ups
 have := Bd.low3
 omega
theorem Good.room {n c : Nat} {b : D} (h : Good n c b) (hc : c ≤ 2000) : b.2.length + 2 ^ (b.1.toNat + 1) ≤ 65537 ∧ b.2.length + 2 ^ b.1.toNat ≤ 65537 ∧ b.2.length < 65536 ∧ b.2.length ≤ 9223372036854775807 := by
 have := h.len
 have e : b.1.toNat = n := by rw [h.vars]; simp
 rw [e]
 have hf := h.few
 have p1 : 2 ^ (n + 1) ≤ 2 ^ 9 := Nat.pow_le_pow_right (by decide) (by omega)
 have p2 : 2 ^ n ≤ 2 ^ 8 := Nat.pow_le_pow_right (by decide) (by omega)
 omega
theorem Good.mono {n c d : Nat} {b : D} (h : Good n c b) (hd : c ≤ d) : Good n d b := ⟨h.vars, h.few, h.fine, by have := h.ups; omega⟩
structure Op (n c : Nat) (b : D) (t : List Bool) (r : D × Int × Int) : Prop where
 ok : r.2.2 = 0
 good : Good n (c + 1) r.1
 inn : In n r.1.2 0 r.2.1
 tab : T r.1 r.2.1 = t
 pre : ∃ l, r.1.2 = b.2 ++ l
theorem In.len {n : Int} {F : List T3} {v x : Int} (h : In n F v x) : 0 ≤ x ∧ x < F.length := ⟨h.1, h.2.1⟩
theorem T_pre {n c : Nat} {b r : D} (h : Good n c b) (hr : r.1 = n) {l : List T3} (hl : r.2 = b.2 ++ l) {f : Int} (i : In n b.2 0 f) : T r f = T b f ∧ In n r.2 0 f := by
 obtain ⟨v, F⟩ := b
 obtain ⟨w, G⟩ := r
 obtain rfl : v = n := h.vars
 obtain rfl : w = n := hr
 simp only at hl
 subst hl
 exact ⟨Bd.T_app h.fine.toOk i, i.app l⟩
end Fil.Eqv

namespace Fil.Eqv
open Bd (D T3 In T varW notW iteW opW askE lookT)
abbrev S := D × List Int
def lits (g : Aig) : List Int := g.outs ++ g.flops.map (·.next)
structure Rep (n c : Nat) (b : D) (nodes : List Int) (w v : List Bool) : Prop where
 good : Good n c b
 wl : w.length = n
 len : nodes.length = v.length
 inn : ∀ x ∈ nodes, In n b.2 0 x
 val : ∀ i, i < nodes.length → lookT (T b (nodes.getD i 0)) w = v.getD i false
theorem mem_getD {l : List Int} {i : Nat} (h : i < l.length) : l.getD i 0 ∈ l := by
 rw [List.getD_eq_getElem?_getD, List.getElem?_eq_getElem h]; exact List.getElem_mem h
theorem Rep.more {n c d : Nat} {b r : D} {nodes : List Int} {w v : List Bool} (h : Rep n c b nodes w v) (hg : Good n d r) (hp : ∃ l, r.2 = b.2 ++ l) : Rep n d r nodes w v := by
 obtain ⟨l, hl⟩ := hp
 have key : ∀ x ∈ nodes, T r x = T b x ∧ In n r.2 0 x := fun x hx => T_pre h.good hg.vars hl (h.inn x hx)
 exact ⟨hg, h.wl, h.len, fun x hx => (key x hx).2, fun i hi => by rw [(key _ (mem_getD hi)).1]; exact h.val i hi⟩
theorem Rep.push {n c : Nat} {b : D} {nodes : List Int} {w v : List Bool} (h : Rep n c b nodes w v) {x : Int} {y : Bool} (hx : In n b.2 0 x) (hy : lookT (T b x) w = y) : Rep n c b (nodes ++ [x]) w (v ++ [y]) := by
 have hlen := h.len
 refine ⟨h.good, h.wl, by simp [hlen], fun z hz => ?_, fun i hi => ?_⟩
 ·rcases List.mem_append.1 hz with q | q
  ·exact h.inn z q
  ·simp at q; subst q; exact hx
 ·simp only [List.length_append, List.length_cons, List.length_nil] at hi
  simp only [List.getD_eq_getElem?_getD]
  by_cases c : i < nodes.length
  ·rw [List.getElem?_append_left c, List.getElem?_append_left (by omega), ← List.getD_eq_getElem?_getD, ← List.getD_eq_getElem?_getD]
   exact h.val i c
  ·have e : i = nodes.length := by omega
   subst e
   rw [List.getElem?_append_right (by omega), List.getElem?_append_right (by omega)]
   simp [hlen, hy]
end Fil.Eqv

namespace Fil.Eqv
open Abs
theorem andW_fit {g : Aig} {p q : Int} (h : g.count < 65536) : (g.andW 0 p q).2.1 = 0 := by
 have hn : g.andO p q ≠ none := by
  unfold Aig.andO
  simp only
  split
  ·simp
  ·split
   ·simp
   ·split
    ·simp
    ·split
     ·omega
     ·simp
 unfold Aig.andW
 rw [if_neg (by simp)]
 cases ho : g.andO p q with
 | none => exact absurd ho hn
 | some r => rfl
theorem And_fit {g : Aig} {a b : Int} (hc : g.check = 0) (ha : g.lit a = true) (hb : g.lit b = true) (h : g.count < 65536) : (g.And a b).2.2 = 0 := by
 unfold Aig.And
 rw [checkL_two hc ha hb]
 have := andW_fit (p := a) (q := b) h
 unfold Aig.endW
 rw [if_neg (by simp [this])]
def moveL (to : List Int) (l : Int) : Int := if l % 2 = 0 then to.getD (l / 2).toNat 0 else turn (to.getD (l / 2).toNat 0)
def m0 (g : Aig) : Aig := ⟨g.ins, List.replicate g.flops.length ⟨0, false⟩, g.ands, []⟩
structure MI (g : Aig) (N : Nat) (m : Aig) : Prop where
 small : g.ins + g.flops.length ≤ 8
 check : m.check = 0
 fine : Fine m
 ext : Ext (m0 g) m
 len : m.ands.length ≤ N
theorem MI.count {g m : Aig} {N : Nat} (h : MI g N m) : m.count ≤ 8 + N := by
 have h1 := h.small
 have h2 := h.len
 unfold Aig.count
 rw [h.ext.ins, h.ext.flops]
 simp only [m0, List.length_replicate]; omega
theorem MI.first {g m : Aig} {N : Nat} (h : MI g N m) : m.first = g.first := by
 unfold Aig.first
 rw [h.ext.ins, h.ext.flops]; simp [m0]
abbrev at_ (m : Aig) (s : List Bool) (a : Int) : Bool := Aig.val (Aig.vals (false :: s) m.ands) a
end Fil.Eqv

namespace Fil.Rw
open Abs
open Eqv (moveL)
structure B where
 g : Aig
 lits : List Int
 lev : List Int
def evens (n : Nat) : List Int := (List.range n).map fun k : Nat => 2 * (k : Int)
def bit (v : Bool) : Int := if v then 1 else 0
def bgAt (g : Aig) (s : Nat → Option Bool) : Nat → List Int × List Flop
 | 0 => (evens (1 + g.ins).toNat, [])
 | i + 1 => match s i with
  | some v => ((bgAt g s i).1 ++ [bit v], (bgAt g s i).2)
  | none => ((bgAt g s i).1 ++ [2 * (g.ins + ((bgAt g s i).2.length + 1 : Nat))], (bgAt g s i).2 ++ [⟨0, (g.flops.getD i ⟨0, false⟩).init⟩])
def bgn (g : Aig) (s : Nat → Option Bool) : B :=
 ⟨⟨g.ins, (bgAt g s g.flops.length).2, [], []⟩, (bgAt g s g.flops.length).1, List.replicate (1 + g.ins + (bgAt g s g.flops.length).2.length).toNat 0⟩
def andB (b : B) (x y : Int) : B × Int :=
 (⟨(b.g.And x y).1, b.lits, if b.g.ands.length < (b.g.And x y).1.ands.length then b.lev ++ [1 + max (b.lev.getD (x / 2).toNat 0) (b.lev.getD (y / 2).toNat 0)] else b.lev⟩, (b.g.And x y).2.1)
def nextsAt (g : Aig) (s : Nat → Option Bool) (lits : List Int) : Nat → List Flop
 | 0 => []
 | i + 1 => match s i with
  | some _ => nextsAt g s lits i
  | none => nextsAt g s lits i ++ [⟨moveL lits (g.flops.getD i ⟨0, false⟩).next, (g.flops.getD i ⟨0, false⟩).init⟩]
def endB (g : Aig) (s : Nat → Option Bool) (b : B) : Aig := { b.g with flops := nextsAt g s b.lits g.flops.length, outs := b.g.outs ++ g.outs.map (moveL b.lits) }
def hashAt (g : Aig) (s : Nat → Option Bool) : Nat → B
 | 0 => bgn g s
 | i + 1 =>
  let b := hashAt g s i
  let x := g.ands.getD i (0, 0)
  let r := andB b (moveL b.lits x.1) (moveL b.lits x.2)
  { r.1 with lits := b.lits ++ [r.2] }
def hashed (g : Aig) (s : Nat → Option Bool) : Aig := endB g s (hashAt g s g.ands.length)
end Fil.Rw

namespace Abs
open Go
def frzB (o n : Nat) (l : List AV) (a b : AV) : Prop := b = .vec o n ∧ (a = .slice l (.own o) ∨ a = .slice l .no)
theorem frzB_plain (o n : Nat) (l : List AV) : PlainB (frzB o n l) := fun a b ⟨h1, h2⟩ => by
 subst h1
 rcases h2 with rfl | rfl <;> exact ⟨rfl, rfl⟩
theorem view_frz {σ : Sig} {o sz n : Nat} {cs l : List AV} (h : σ o = some (.vec sz n cs)) (hf : flat l = cs) (hl : l.length = n) (hall : ∀ x ∈ l, (cellsA x).length = sz) :
  View (Lift (frzB o n l)) (upd σ o (.grow sz n)) σ := fun S K w hS hs => by
 obtain ⟨e0, h1, h2⟩ := hs.live o _ h
 cases e0 <;> simp only [ObjSat] at h2
 rename_i b cap sz' n'
 obtain ⟨rfl, rfl, h3⟩ := h2
 obtain ⟨K', k1, k2, k3⟩ := hs.freeze h h1 hf hl hall S
 refine ⟨K', k1, k3, fun a0 a v hab hr => ?_⟩
 refine Rel.lift (frzB_plain o _ l) k1.le (fun x y v ⟨e1, e2⟩ hr => ?_) hab hr
 subst e1
 obtain ⟨b', cap', rfl, hown, _⟩ := vec_at hs h hr
 rw [h1] at hown
 simp only [Option.some.injEq, Own.vec.injEq] at hown
 obtain ⟨rfl, rfl, _, _⟩ := hown
 rcases e2 with rfl | rfl
 ·exact k2
 ·exact Rel.lift (nilB_plain (fun _ => none)) (Gh.le.refl K') (fun a b v ⟨o, sz, _, _, h3⟩ hr => by simp at h3) (.slice l l .no (.own o) (.inl rfl) rfl fun i _ _ => .refl _) k2
theorem flat_map_len {α : Type} (e : α → AV) (sz : Nat) (he : ∀ x, (cellsA (e x)).length = sz) : ∀ l : List α, (flat (l.map e)).length = l.length * sz
 | [] => by simp [flat]
 | x :: l => by
  have := flat_map_len e sz he l
  simp only [List.map_cons, flat_cons, List.length_append, he, this, List.length_cons]
  rw [Nat.succ_mul]; omega
theorem flat_get {α : Type} (e : α → AV) (sz : Nat) (he : ∀ x, (cellsA (e x)).length = sz) : ∀ (l : List α) (i k : Nat), (hi : i < l.length) → k < sz → (flat (l.map e))[i * sz + k]? = (cellsA (e l[i]))[k]?
 | x :: l, 0, k, _, hk => by
  simp only [List.map_cons, flat_cons, Nat.zero_mul, Nat.zero_add, List.getElem_cons_zero]
  rw [List.getElem?_append_left (by rw [he]; exact hk)]
 | x :: l, i + 1, k, hi, hk => by
  have := flat_get e sz he l i k (by simpa using hi) hk
  simp only [List.map_cons, flat_cons, List.getElem_cons_succ]
  rw [List.getElem?_append_right (by rw [he, Nat.succ_mul]; omega), he, Nat.succ_mul]
  rw [show i * sz + sz + k - sz = i * sz + k by omega]
  exact this
theorem flat_set {α : Type} (e : α → AV) (sz : Nat) (he : ∀ x, (cellsA (e x)).length = sz) (y : α) : ∀ (l : List α) (i : Nat), i < l.length → putAt (flat (l.map e)) (i * sz) (cellsA (e y)) = flat ((l.set i y).map e)
 | x :: l, 0, _ => by
  simp only [List.map_cons, flat_cons, Nat.zero_mul, List.set_cons_zero, putAt, List.take_zero, List.nil_append, Nat.zero_add]
  rw [he, List.drop_append_of_le_length (by rw [he]; exact Nat.le_refl _), List.drop_eq_nil_of_le (by rw [he]; exact Nat.le_refl _), List.nil_append]
 | x :: l, i + 1, h => by
  have ih := flat_set e sz he y l i (by simpa using h)
  simp only [List.map_cons, flat_cons, List.set_cons_succ]
  rw [← ih]
  have hx := he x
  unfold putAt
  rw [Nat.succ_mul, Nat.add_comm (i * sz) sz, List.take_append, List.take_of_length_le (by omega), hx, Nat.add_sub_cancel_left]
  have hd : List.drop (sz + i * sz + (cellsA (e y)).length) (cellsA (e x)) = [] := List.drop_eq_nil_of_le (by omega)
  rw [List.drop_append, hd, hx, List.nil_append, show sz + i * sz + (cellsA (e y)).length - sz = i * sz + (cellsA (e y)).length by omega]
  simp only [List.append_assoc]
theorem fin_frz {R : ARes → Sig → Prop} {v v0 v1 : AV} {σ τ : Sig} (o : Nat) {sz n : Nat} {cs l : List AV} (h : σ o = some (.vec sz n cs)) (hf : flat l = cs) (hl : l.length = n) (hall : ∀ x ∈ l, (cellsA x).length = sz)
  (hv : Lift (frzB o n l) v1 v) (hv0 : FL (upd σ o (.grow sz n)) v0 v1) (hs : SubX [] τ (upd σ o (.grow sz n))) (hR : R (.ret v0) τ) : fin R v σ :=
 ⟨v0, τ, Vr.comp (vr_of hv0 hs) ⟨_, view_frz h hf hl hall, hv⟩, hR⟩
theorem subx_of {τ σ : Sig} (h : ∀ q x, τ q = some x → σ q = some x) : SubX [] τ σ := fun q _ x e => ⟨x, h q x e, .refl _ x⟩

/-! ### A call that makes four objects -/
structure Fr4 (σ : Sig) (a b c d : Nat) : Prop where
 ha : σ a = none
 hb : σ b = none
 hc : σ c = none
 hd : σ d = none
 ab : ¬ a = b
 ba : ¬ b = a
 ac : ¬ a = c
 ca : ¬ c = a
 ad : ¬ a = d
 da : ¬ d = a
 bc : ¬ b = c
 cb : ¬ c = b
 bd : ¬ b = d
 db : ¬ d = b
 cd : ¬ c = d
 dc : ¬ d = c
theorem Fr4.old {σ : Sig} {a b c d : Nat} (h : Fr4 σ a b c d) : ∀ o, ¬ σ o = none → ¬ o = a ∧ ¬ a = o ∧ ¬ o = b ∧ ¬ b = o ∧ ¬ o = c ∧ ¬ c = o ∧ ¬ o = d ∧ ¬ d = o := fun o ho =>
 ⟨fun e => ho (e ▸ h.ha), fun e => ho (e ▸ h.ha), fun e => ho (e ▸ h.hb), fun e => ho (e ▸ h.hb), fun e => ho (e ▸ h.hc), fun e => ho (e ▸ h.hc), fun e => ho (e ▸ h.hd), fun e => ho (e ▸ h.hd)⟩
def New4 (σ : Sig) (v : Nat → AV) (S : Nat → Nat → Nat → Nat → Sig) : ARes → Sig → Prop := fun r s => ∃ a b c d, Fr4 σ a b c d ∧ r = .ret (v a) ∧ s = S a b c d
theorem ACalls.new4 {P : Program} {f : FuncId} {args : List AV} {σ : Sig} {v : Nat → AV} {S : Nat → Nat → Nat → Nat → Sig} {R : ARes → Sig → Prop} (h : ACalls P f args σ (New4 σ v S))
  (hR : ∀ a b c d, Fr4 σ a b c d → R (.ret (v a)) (S a b c d)) : ACalls P f args σ R :=
 h.mono fun r s ⟨a, b, c, d, k, e1, e2⟩ => by
  subst e1 e2
  exact hR a b c d k
theorem fin_new4 {σ σ' : Sig} {v : Nat → AV} {S : Nat → Nat → Nat → Nat → Sig} {w : AV} (a b c d : Nat) (hf : Fr4 σ a b c d) (h : FL σ' (v a) w ∧ SubX [] (S a b c d) σ') : fin (New4 σ v S) w σ' := fin_v (v a) (S a b c d) ⟨a, b, c, d, hf, rfl, rfl⟩ h.1 h.2
end Abs

namespace Go.Proofs.Ytapnlmhfacoceaa
open Abs Fil
open A (sl_indexGate sl_clipGate sl_containsInt sl_containsFlop aig_and1)
abbrev rowF (l : List Flop) : AObj := .vec 2 l.length (flat (l.map encFlop))
abbrev aigV (g : Aig) (p : Nat) (t : Tok) : List AV := [.int .i64 g.ins, .vec p g.flops.length, .slice (g.ands.map encGate) .no, .slice (g.outs.map encInt) t]
abbrev encV (g : Aig) (p : Nat) (t : Tok) : AV := .agg (aigV g p t)
abbrev workV (g : Aig) (p : Nat) (t : Tok) (e : Int) : AObj := .cells [.int .i64 g.ins, .vec p g.flops.length, .slice (g.ands.map encGate) .no, .slice (g.outs.map encInt) t, .int .i64 e]
abbrev aigT (g : Aig) (t : Tok) : List AV := [.int .i64 g.ins, .slice (g.flops.map encFlop) .no, .slice (g.ands.map encGate) .no, .slice (g.outs.map encInt) t]
abbrev encT (g : Aig) (t : Tok) : AV := .agg (aigT g t)
abbrev workT (g : Aig) (t : Tok) (e : Int) : AObj := .cells [.int .i64 g.ins, .slice (g.flops.map encFlop) .no, .slice (g.ands.map encGate) .no, .slice (g.outs.map encInt) t, .int .i64 e]
theorem flop_all (l : List Flop) : ∀ x ∈ l.map encFlop, (cellsA x).length = 2 := fun x hx => by
 obtain ⟨y, _, rfl⟩ := List.mem_map.1 hx; rfl
theorem flop_at (l : List Flop) (i : Nat) (h : i < l.length) : List.take 2 (List.drop (i * 2) (flat (l.map encFlop))) = [.int .i64 l[i].next, .bool l[i].init] := by
 have := flat_at (l := l.map encFlop) (i := i) (e := encFlop l[i]) (sz := 2) (flop_all l) (by simp [h])
 exact this
theorem rows_indexFlop (f : Flop → Bool) (l : List Flop) (hl : l.length ≤ 1000000000000) (σ : Sig) (p : Nat) (hp : σ p = some (rowF l)) {F : Nat} {caps : List AV} (hF : ∀ x ∈ l, ACalls Try.prog F (encFlop x :: caps) σ (fun r σ' => r = .ret (.bool (f x)) ∧ σ' = σ)) :
  ACalls Try.prog 94 [.vec p l.length, .fn F [] caps] σ (fun r σ' => r = .ret (.int .i64 (idxF f l)) ∧ σ' = σ) := by
 refine calls_x mixed Try.func94 b94 n94 rfl q94 (by simp) ?_; unfold c94 r94
 repeat' simp (maxDischargeDepth := 9) -implicitDefEqProofs -dsimp only [go_sem, seval, *]
 refine loop_rule (fun i : Nat => [(0, some (.vec p l.length)), (1, some (.fn F [] caps)), (8, some (.int .i64 i)), (7, some (.int .i64 l.length))]) (fun _ => σ) (fun i => i ≤ l.length ∧ ∀ j, (hj : j < l.length) → j < i → f l[j] = false) (fun i => l.length - i) 0 ?_ ?_
 ·(repeat' simp (maxDischargeDepth := 9) -implicitDefEqProofs -dsimp only [go_sem, seval, *]) <;> (repeat' refine And.intro ?_ ?_) <;> (first | omega | skip)
 ·rintro i ⟨hi, hb⟩
  by_cases hlt : i < l.length
  ·have hr := flop_at l i hlt
   have hlen := flat_map_len encFlop 2 (fun _ => rfl) l
   have hc := hF _ (List.getElem_mem hlt)
   obtain ⟨b, hfb⟩ : ∃ b, f l[i] = b := ⟨_, rfl⟩
   rw [hfb] at hc
   cases b with
   | true =>
    have hv := idxF_some hlt (fun j hj => hb j (by omega) hj) hfb
    clear hF hb
    repeat' (first | simp (maxDischargeDepth := 9) -implicitDefEqProofs -dsimp only [go_sem, seval, *] | ((with_reducible refine Zv ?_ ?_); focus (first | omega | exact rfl)) | ((with_reducible apply ACalls.one1); (focus ((with_reducible refine hc) <;> (first | (simp (maxDischargeDepth := 9) -implicitDefEqProofs -dsimp only [go_sem, seval, *]; done) | omega))); (focus (first | trivial | with_reducible exact rfl | (simp (maxDischargeDepth := 9) -implicitDefEqProofs -dsimp only [go_sem, seval]; done)))))
    refine fin_eq ?_
    (repeat' simp (maxDischargeDepth := 9) -implicitDefEqProofs -dsimp only [go_sem, seval, hv, *])
   | false =>
    have hb' : ∀ j, (hj : j < l.length) → j < i + 1 → f l[j] = false := fun j hj h => by
     rcases Nat.lt_or_ge j i with h' | h'
     ·exact hb j hj h'
     ·obtain rfl : j = i := by omega
      exact hfb
    clear hF hb
    repeat' (first | simp (maxDischargeDepth := 9) -implicitDefEqProofs -dsimp only [go_sem, seval, *] | simp (disch := omega) only [wrap64] | ((with_reducible refine Zv ?_ ?_); focus (first | omega | exact rfl)) | ((with_reducible apply ACalls.one1); (focus ((with_reducible refine hc) <;> (first | (simp (maxDischargeDepth := 9) -implicitDefEqProofs -dsimp only [go_sem, seval, *]; done) | omega))); (focus (first | trivial | with_reducible exact rfl | (simp (maxDischargeDepth := 9) -implicitDefEqProofs -dsimp only [go_sem, seval]; done)))))
    refine loop_next _ _ _ _ (i + 1) ⟨?_, ?_, ⟨by omega, hb'⟩, by omega⟩
    ·(repeat' simp (maxDischargeDepth := 9) -implicitDefEqProofs -dsimp only [go_sem, seval, *])
    ·(repeat' simp (maxDischargeDepth := 9) -implicitDefEqProofs -dsimp only [go_sem, seval, *])
  ·have hv : idxF f l = -1 := idxF_none fun a ha => by
    obtain ⟨j, hj, rfl⟩ := List.getElem_of_mem ha
    exact hb j hj (by omega)
   clear hF hb
   repeat' simp (maxDischargeDepth := 9) -implicitDefEqProofs -dsimp only [go_sem, seval, *]
   refine fin_eq ?_
   (repeat' simp (maxDischargeDepth := 9) -implicitDefEqProofs -dsimp only [go_sem, seval, hv, *])
theorem sl_containsIntT (p : Int → Bool) (l : List Int) (t : Tok) (hl : l.length ≤ 1000000000000) (σ : Sig) {F : Nat} {caps : List AV} (hF : ∀ x ∈ l, ACalls Try.prog F (encInt x :: caps) σ (fun r σ' => r = .ret (.bool (p x)) ∧ σ' = σ)) :
  ACalls Try.prog 90 [.slice (l.map encInt) t, .fn F [] caps] σ (fun r σ' => r = .ret (.bool (l.any p)) ∧ σ' = σ) := by
 refine ACalls.flA (sl_containsInt p l hl σ hF) ?_
 simp (maxDischargeDepth := 9) -implicitDefEqProofs -dsimp only [go_sem, seval]
theorem rows_containsFlop (f : Flop → Bool) (l : List Flop) (hl : l.length ≤ 1000000000000) (σ : Sig) (p : Nat) (hp : σ p = some (rowF l)) {F : Nat} {caps : List AV} (hF : ∀ x ∈ l, ACalls Try.prog F (encFlop x :: caps) σ (fun r σ' => r = .ret (.bool (f x)) ∧ σ' = σ)) :
  ACalls Try.prog 89 [.vec p l.length, .fn F [] caps] σ (fun r σ' => r = .ret (.bool (l.any f)) ∧ σ' = σ) := by
 refine calls_x mixed Try.func89 b89 n89 rfl q89 (by simp) ?_; unfold c89 r89
 repeat' (first | simp (maxDischargeDepth := 9) -implicitDefEqProofs -dsimp only [go_sem, seval, *] | ((with_reducible apply ACalls.one1); (focus ((with_reducible refine rows_indexFlop f l hl σ p hp hF) <;> (first | (simp (maxDischargeDepth := 9) -implicitDefEqProofs -dsimp only [go_sem, seval, *]; done) | omega))); (focus (first | trivial | with_reducible exact rfl | (simp (maxDischargeDepth := 9) -implicitDefEqProofs -dsimp only [go_sem, seval]; done)))))
 refine fin_eq ?_
 rw [← idxF_any]
 (repeat' simp (maxDischargeDepth := 9) -implicitDefEqProofs -dsimp only [go_sem, seval, *])
theorem row_count (o : Nat) (g : Aig) (e : Int) (σ : Sig) {p : Nat} {t : Tok} (h : σ o = some (workV g p t e)) (hs : Small g) :
  ACalls Try.prog 83 [.ptr o 0] σ (fun r σ' => r = .ret (.int .i64 g.count) ∧ σ' = σ) := by
 refine calls_x mixed Try.func83 b83 n83 rfl q83 (by simp) ?_; unfold c83 r83
 obtain ⟨⟨h0, h1, h2, h3, h4, h5, h6⟩, h7, h8⟩ := hs
 repeat' (first | simp (maxDischargeDepth := 9) -implicitDefEqProofs -dsimp only [go_sem, seval, *] | simp (disch := omega) only [wrap64])
 exact fin_id ⟨rfl, rfl⟩
theorem row_first (o : Nat) (g : Aig) (e : Int) (σ : Sig) {p : Nat} {t : Tok} (h : σ o = some (workV g p t e)) (hs : Small g) :
  ACalls Try.prog 82 [.ptr o 0] σ (fun r σ' => r = .ret (.int .i64 g.first) ∧ σ' = σ) := by
 refine calls_x mixed Try.func82 b82 n82 rfl q82 (by simp) ?_; unfold c82 r82
 obtain ⟨⟨h0, h1, h2, h3, h4, h5, h6⟩, h7, h8⟩ := hs
 repeat' (first | simp (maxDischargeDepth := 9) -implicitDefEqProofs -dsimp only [go_sem, seval, *] | simp (disch := omega) only [wrap64])
 exact fin_id ⟨rfl, rfl⟩
theorem row_lit (o : Nat) (g : Aig) (e a : Int) (σ : Sig) {p : Nat} {t : Tok} (h : σ o = some (workV g p t e)) (hs : Small g) (ha : I64 a) :
  ACalls Try.prog 81 [.ptr o 0, .int .i64 a] σ (fun r σ' => r = .ret (.bool (g.lit a)) ∧ σ' = σ) := by
 refine calls_x mixed Try.func81 b81 n81 rfl q81 (by simp) ?_; unfold c81 r81
 obtain ⟨ha1, ha2⟩ := ha
 repeat' (first | simp (maxDischargeDepth := 9) -implicitDefEqProofs -dsimp only [go_sem, seval, *] | simp (disch := omega) only [wrap64, tdiv2] | (with_reducible (first | apply Za) <;> intro hq) | ((with_reducible apply ACalls.one1); (focus ((with_reducible refine row_count (p := p) (t := t) o g e σ h hs) <;> (first | (simp (maxDischargeDepth := 9) -implicitDefEqProofs -dsimp only [go_sem, seval, *]; done) | omega))); (focus (first | trivial | with_reducible exact rfl | (simp (maxDischargeDepth := 9) -implicitDefEqProofs -dsimp only [go_sem, seval]; done)))))
 ·refine fin_eq ?_
  simp (maxDischargeDepth := 9) -implicitDefEqProofs -dsimp only [go_sem, seval]
  rw [Bool.eq_iff_iff]
  simp only [Aig.lit, litN_iff, decide_eq_true_eq]
  omega
 ·refine fin_eq ?_
  simp (maxDischargeDepth := 9) -implicitDefEqProofs -dsimp only [go_sem, seval]
  have : ¬ (0 ≤ a) := by omega
  simp [Aig.lit, Aig.litN, this]
theorem row_check1 (b o : Nat) (f : Flop) (g : Aig) (e : Int) (σ : Sig) {p : Nat} {t : Tok} (hb : σ b = some (.cells [.ptr o 0])) (h : σ o = some (workV g p t e)) (hs : Small g) (hf : I64 f.next) :
  ACalls Try.prog 87 [encFlop f, .ptr b 0] σ (fun r σ' => r = .ret (.bool (!g.lit f.next)) ∧ σ' = σ) := by
 refine calls_x mixed Try.func87 b87 n87 rfl q87 (by simp) ?_; unfold c87 r87
 repeat' (first | simp (maxDischargeDepth := 9) -implicitDefEqProofs -dsimp only [go_sem, seval, *] | ((with_reducible apply ACalls.one1); (focus ((with_reducible refine row_lit (p := p) (t := t) o g e f.next σ h hs hf) <;> (first | (simp (maxDischargeDepth := 9) -implicitDefEqProofs -dsimp only [go_sem, seval, *]; done) | omega))); (focus (first | trivial | with_reducible exact rfl | (simp (maxDischargeDepth := 9) -implicitDefEqProofs -dsimp only [go_sem, seval]; done)))))
 exact fin_id ⟨rfl, rfl⟩
theorem row_check2 (b o : Nat) (a : Int) (g : Aig) (e : Int) (σ : Sig) {p : Nat} {t : Tok} (hb : σ b = some (.cells [.ptr o 0])) (h : σ o = some (workV g p t e)) (hs : Small g) (hf : I64 a) :
  ACalls Try.prog 88 [.int .i64 a, .ptr b 0] σ (fun r σ' => r = .ret (.bool (!g.lit a)) ∧ σ' = σ) := by
 refine calls_x mixed Try.func88 b88 n88 rfl q88 (by simp) ?_; unfold c88 r88
 repeat' (first | simp (maxDischargeDepth := 9) -implicitDefEqProofs -dsimp only [go_sem, seval, *] | ((with_reducible apply ACalls.one1); (focus ((with_reducible refine row_lit (p := p) (t := t) o g e a σ h hs hf) <;> (first | (simp (maxDischargeDepth := 9) -implicitDefEqProofs -dsimp only [go_sem, seval, *]; done) | omega))); (focus (first | trivial | with_reducible exact rfl | (simp (maxDischargeDepth := 9) -implicitDefEqProofs -dsimp only [go_sem, seval]; done)))))
 exact fin_id ⟨rfl, rfl⟩
theorem row_check (o : Nat) (g : Aig) (e : Int) (σ : Sig) {p : Nat} {t : Tok} (hp : σ p = some (rowF g.flops)) (h : σ o = some (workV g p t e)) (hs : Wf g) :
  ACalls Try.prog 80 [.ptr o 0] σ (fun r σ' => r = .ret (.int .i64 g.check) ∧ σ' = σ) := by
 refine calls_x mixed Try.func80 b80 n80 rfl q80 (by simp) ?_; unfold c80 r80
 by_cases hlo : g.ins < 0
 ·repeat' (first | simp (maxDischargeDepth := 9) -implicitDefEqProofs -dsimp only [go_sem, seval, *] | ((with_reducible refine Zt (fun oF hoF hnF hnF' => ?_)); (try simp only [upd_none, ne_eq, not_and] at hoF)))
  refine fin_eq ?_
  have : g.check = 1 := by simp [Aig.check, hlo]
  (repeat' simp (maxDischargeDepth := 9) -implicitDefEqProofs -dsimp only [go_sem, seval, this, *])
 by_cases hhi : 65536 < g.ins
 ·repeat' (first | simp (maxDischargeDepth := 9) -implicitDefEqProofs -dsimp only [go_sem, seval, gt_iff_lt, *] | ((with_reducible refine Zt (fun oF hoF hnF hnF' => ?_)); (try simp only [upd_none, ne_eq, not_and] at hoF)))
  refine fin_eq ?_
  have : g.check = 2 := by simp [Aig.check, hlo, hhi]
  (repeat' simp (maxDischargeDepth := 9) -implicitDefEqProofs -dsimp only [go_sem, seval, this, *])
 have hsm : Small g := ⟨hs, by omega, by omega⟩
 have hfl := hs.flops
 have hol := hs.outs
 repeat' (first | simp (maxDischargeDepth := 9) -implicitDefEqProofs -dsimp only [go_sem, seval, gt_iff_lt, *] | (with_reducible (first | apply Zb | apply Zc | apply Zr) <;> intro hq) | ((with_reducible refine Zt (fun oF hoF hnF hnF' => ?_)); (try simp only [upd_none, ne_eq, not_and] at hoF)) | ((with_reducible apply ACalls.one1); (focus ((first | with_reducible refine row_count (p := p) (t := t) o g e _ ?_ hsm | with_reducible refine rows_containsFlop (fun f => !g.lit f.next) g.flops ?_ _ p ?_ (fun f hf => row_check1 (p := p) (t := t) _ o f g e _ ?_ ?_ hsm (hs.nexts f hf)) | with_reducible refine sl_containsIntT (fun a => !g.lit a) g.outs t ?_ _ (fun a ha => row_check2 (p := p) (t := t) _ o a g e _ ?_ ?_ hsm (hs.lits a ha))) <;> (first | (simp (maxDischargeDepth := 9) -implicitDefEqProofs -dsimp only [go_sem, seval, *]; done) | omega))); (focus (first | trivial | with_reducible exact rfl | (simp (maxDischargeDepth := 9) -implicitDefEqProofs -dsimp only [go_sem, seval]; done)))))
 ·refine fin_eq ?_
  have : g.check = 2 := by simp [Aig.check, hlo, hhi, hq]
  (repeat' simp (maxDischargeDepth := 9) -implicitDefEqProofs -dsimp only [go_sem, seval, this, *])
 ·refine fin_eq ?_
  have : g.check = 2 := by simp [Aig.check, hlo, hhi, hq]
  (repeat' simp (maxDischargeDepth := 9) -implicitDefEqProofs -dsimp only [go_sem, seval, this, *])
 ·refine fin_eq ?_
  have : g.check = 1 := by simp [Aig.check, Aig.good, hlo, hhi, *]
  (repeat' simp (maxDischargeDepth := 9) -implicitDefEqProofs -dsimp only [go_sem, seval, this, *])
 ·refine fin_eq ?_
  have : g.check = 1 := by simp [Aig.check, Aig.good, hlo, hhi, *]
  (repeat' simp (maxDischargeDepth := 9) -implicitDefEqProofs -dsimp only [go_sem, seval, this, *])
 ·refine loop_rule (fun i : Nat => [(1, some (.ptr oF 0)), (52, some (.slice (g.ands.map encGate) .no)), (53, some (.int .i64 g.ands.length)), (54, some (.int .i64 i))]) (fun _ => upd σ oF (.cells [.ptr o 0])) (fun i => i ≤ g.ands.length ∧ ∀ j, (hj : j < g.ands.length) → j < i → (0 ≤ g.ands[j].1 ∧ g.ands[j].1 < 2 * (g.first + j)) ∧ (0 ≤ g.ands[j].2 ∧ g.ands[j].2 < 2 * (g.first + j))) (fun i => g.ands.length - i) 0 ?_ ?_
  ·(repeat' simp (maxDischargeDepth := 9) -implicitDefEqProofs -dsimp only [go_sem, seval, *]) <;> (repeat' refine And.intro ?_ ?_) <;> (first | omega | skip)
  ·rintro i ⟨hi, hb⟩
   have hA := hs.ands
   have hF := hs.flops
   have hfd : 1 ≤ g.first ∧ g.first ≤ 3000000 := by
    have := hsm.lo; have := hsm.hi
    unfold Aig.first; omega
   by_cases hlt : i < g.ands.length
   ·have hgate := hs.gates _ (List.getElem_mem hlt)
    obtain ⟨⟨g1, g2⟩, g3, g4⟩ := hgate
    repeat' (first | simp (maxDischargeDepth := 9) -implicitDefEqProofs -dsimp only [go_sem, seval, ge_iff_le, *] | simp (disch := omega) only [wrap64] | (with_reducible (first | apply Zb | apply Zc | apply Zr) <;> intro hq) | ((with_reducible refine Zu ?_ ?_); focus omega) | ((with_reducible refine Zt (fun oF hoF hnF hnF' => ?_)); (try simp only [upd_none, ne_eq, not_and] at hoF)) | ((with_reducible apply id_one0); (focus (intro tS hS; ((with_reducible refine row_first (p := p) (t := t) o g e _ ?_ hsm) <;> (first | (simp (maxDischargeDepth := 9) -implicitDefEqProofs -dsimp only [go_sem, seval, *]; done) | omega | ((with_reducible refine Sub.get hS ?_); simp (maxDischargeDepth := 9) -implicitDefEqProofs -dsimp only [go_sem, seval, *]; done))))); (focus (first | trivial | (simp (maxDischargeDepth := 9) -implicitDefEqProofs -dsimp only [go_sem, seval, *]; done)))))
    ·have : g.check = 1 := by
      have := gatesOk_false (n := g.first) hlt (by omega)
      simp [Aig.check, Aig.good, hlo, hhi, *]
     refine fin_eq ?_
     (repeat' simp (maxDischargeDepth := 9) -implicitDefEqProofs -dsimp only [go_sem, seval, this, *])
    ·refine loop_next _ _ _ _ (i + 1) ?_; (repeat' simp (maxDischargeDepth := 9) -implicitDefEqProofs -dsimp only [go_sem, seval, *]) <;> (repeat' refine And.intro ?_ ?_) <;> (first | omega | skip)
     intro j hj h
     rcases Nat.lt_or_ge j i with h' | h'
     ·exact hb j hj h'
     ·obtain rfl : j = i := by omega
      omega
    ·have : g.check = 1 := by
      have := gatesOk_false (n := g.first) hlt (by omega)
      simp [Aig.check, Aig.good, hlo, hhi, *]
     refine fin_eq ?_
     (repeat' simp (maxDischargeDepth := 9) -implicitDefEqProofs -dsimp only [go_sem, seval, this, *])
   ·repeat' simp (maxDischargeDepth := 9) -implicitDefEqProofs -dsimp only [go_sem, seval, *]
    refine fin_eq ?_
    have : g.check = 0 := by
     have : Aig.gatesOk g.first g.ands = true := gatesOk_iff.2 fun j hj => hb j hj (by omega)
     simp [Aig.check, Aig.good, hlo, hhi, *]
    (repeat' simp (maxDischargeDepth := 9) -implicitDefEqProofs -dsimp only [go_sem, seval, this, *])
theorem row_begin (g : Aig) (l : List Int) (σ : Sig) {p : Nat} {t : Tok} (hp : σ p = some (rowF g.flops)) (hs : Wf g) (hl : l.length ≤ 1000000) (hi : ∀ a ∈ l, I64 a) :
  ACalls Try.prog 59 [encV g p t, .slice (l.map encInt) .no] σ (NewO σ (fun o => .ptr o 0) (workV g p t (g.checkL g.check l))) := by
 refine calls_x mixed Try.func59 b59 n59 rfl q59 (by simp) ?_; unfold c59 r59
 repeat' (first | simp (maxDischargeDepth := 9) -implicitDefEqProofs -dsimp only [go_sem, seval, *] | ((with_reducible refine Zt (fun oF hoF hnF hnF' => ?_)); (try simp only [upd_none, ne_eq, not_and] at hoF)) | ((with_reducible apply ACalls.one1); (focus ((with_reducible refine row_check (p := p) (t := t) _ g 0 _ ?_ ?_ hs) <;> (first | (simp (maxDischargeDepth := 9) -implicitDefEqProofs -dsimp only [go_sem, seval, *]; done) | omega))); (focus (first | trivial | with_reducible exact rfl | (simp (maxDischargeDepth := 9) -implicitDefEqProofs -dsimp only [go_sem, seval]; done)))))
 refine loop_rule (fun i : Nat => [(5, some (.ptr oF 0)), (16, some (.slice (l.map encInt) .no)), (17, some (.int .i64 l.length)), (18, some (.int .i64 i))]) (fun i => upd σ oF (workV g p t (g.checkL g.check (l.take i)))) (fun i => i ≤ l.length) (fun i => l.length - i) 0 ?_ ?_
 ·(repeat' simp (maxDischargeDepth := 9) -implicitDefEqProofs -dsimp only [go_sem, seval, Aig.checkL, *]) <;> (first | omega | skip)
 ·intro i hi'
  by_cases hlt : i < l.length
  ·have hi2 := hi _ (List.getElem_mem hlt)
   have step : g.checkL g.check (l.take (i + 1)) = if g.checkL g.check (l.take i) = 0 ∧ g.lit l[i] = false then 1 else g.checkL g.check (l.take i) := by
    rw [List.take_add_one, List.getElem?_eq_getElem hlt]
    exact checkL_snoc g _ _ _
   by_cases he : g.checkL g.check (l.take i) = 0
   ·have hsm : Small g := checkL_small hs he
    repeat' (first | simp (maxDischargeDepth := 9) -implicitDefEqProofs -dsimp only [go_sem, seval, *] | simp (disch := omega) only [wrap64] | (with_reducible (first | apply Zr) <;> intro hq) | ((with_reducible refine Zu ?_ ?_); focus omega) | ((with_reducible apply ACalls.one1); (focus ((with_reducible refine row_lit (p := p) (t := t) _ g 0 l[i] _ ?_ hsm hi2) <;> (first | (simp (maxDischargeDepth := 9) -implicitDefEqProofs -dsimp only [go_sem, seval, *]; done) | omega))); (focus (first | trivial | with_reducible exact rfl | (simp (maxDischargeDepth := 9) -implicitDefEqProofs -dsimp only [go_sem, seval]; done)))))
    ·have st : g.checkL g.check (l.take (i + 1)) = 0 := by rw [step]; simp [*]
     refine loop_next _ _ _ _ (i + 1) ?_; (repeat' simp (maxDischargeDepth := 9) -implicitDefEqProofs -dsimp only [go_sem, seval, *]) <;> (repeat' refine And.intro ?_ ?_) <;> (first | omega | skip)
    ·have st : g.checkL g.check (l.take (i + 1)) = 1 := by rw [step]; simp [*]
     refine loop_next _ _ _ _ (i + 1) ?_; (repeat' simp (maxDischargeDepth := 9) -implicitDefEqProofs -dsimp only [go_sem, seval, *]) <;> (repeat' refine And.intro ?_ ?_) <;> (first | omega | skip)
   ·have st : g.checkL g.check (l.take (i + 1)) = g.checkL g.check (l.take i) := by rw [step]; simp [*]
    have hb : (g.checkL g.check (l.take i) == 0) = false := by simpa using he
    repeat' (first | simp (maxDischargeDepth := 9) -implicitDefEqProofs -dsimp only [go_sem, seval, *] | simp (disch := omega) only [wrap64] | ((with_reducible refine Zu ?_ ?_); focus omega))
    refine loop_next _ _ _ _ (i + 1) ?_; (repeat' simp (maxDischargeDepth := 9) -implicitDefEqProofs -dsimp only [go_sem, seval, *]) <;> (repeat' refine And.intro ?_ ?_) <;> (first | omega | skip)
  ·repeat' simp (maxDischargeDepth := 9) -implicitDefEqProofs -dsimp only [go_sem, seval, *]
   refine fin_new oF hoF ?_
   have e0 : l.take i = l := List.take_of_length_le (by omega)
   (repeat' simp (maxDischargeDepth := 9) -implicitDefEqProofs -dsimp only [go_sem, seval, e0, *])
theorem row_and (o : Nat) (g : Aig) (e a b : Int) (σ : Sig) {p : Nat} {t : Tok} (h : σ o = some (workV g p t e)) (hok : e = 0 → Fine g ∧ g.lit a = true ∧ g.lit b = true) :
    ACalls Try.prog 93 [.ptr o 0, .int .i64 a, .int .i64 b] σ (fun r σ' => r = .ret (.int .i64 (g.andW e a b).2.2) ∧ σ' = upd σ o (workV (g.andW e a b).1 p t (g.andW e a b).2.1)) := by
  refine calls_x mixed Try.func93 b93 n93 rfl q93 (by simp) ?_; unfold c93 r93
  by_cases he : e = 0
  · subst he
    obtain ⟨hfine, ha, hb⟩ := hok rfl
    have hs := hfine.toSmall
    have hcn := hfine.cnt
    have ha' := litN_iff.1 ha
    have hb' := litN_iff.1 hb
    have hcnt : 0 ≤ g.count ∧ g.count ≤ 3000000 := by
      have := hs.lo; have := hs.hi; have := hs.flops; have := hs.ands
      unfold Aig.count; omega
    have hfst : 0 ≤ g.first ∧ g.first ≤ 3000000 := by
      have := hs.lo; have := hs.hi; have := hs.flops
      unfold Aig.first; omega
    have hfb := idxF_bounds (fun x : Int × Int => decide (min x.1 x.2 = min a b) && decide (max x.1 x.2 = max a b)) g.ands
    have hal := hs.ands
    have hpush : ∀ x : Int × Int, I64 x.1 ∧ I64 x.2 → g.ands.length < 1000000 → Small { g with ands := g.ands ++ [x] } := fun x hx hl => { hs with
      ands := by simp; omega
      gates := fun y hy => by
        rcases List.mem_append.1 hy with h | h
        · exact hs.gates y h
        · simp at h; subst h; exact hx }
    repeat' (first | simp (maxDischargeDepth := 9) -implicitDefEqProofs -dsimp only [go_sem, seval, ge_iff_le, *] | simp (disch := omega) only [wrap64, xor1] | (with_reducible (first | apply Zc | apply Zf | apply Zl) <;> intro hq) | ((with_reducible refine Zv ?_ ?_); focus (first | omega | exact rfl)) | ((with_reducible refine Zt (fun oF hoF hnF hnF' => ?_)); (try simp only [upd_none, ne_eq, not_and] at hoF)) | ((with_reducible apply ACalls.one1); (focus ((first | with_reducible refine row_count (p := p) (t := t) o g 0 _ ?_ hs | with_reducible refine row_first (p := p) (t := t) o g 0 _ ?_ hs | with_reducible refine sl_indexGate (fun x : Int × Int => decide (min x.1 x.2 = min a b) && decide (max x.1 x.2 = max a b)) g.ands ?_ _ (fun x _ => aig_and1 _ _ x (min a b) (max a b) _ ?_ ?_)) <;> (first | (simp (maxDischargeDepth := 9) -implicitDefEqProofs -dsimp only [go_sem, seval, *]; done) | omega))); (focus (first | trivial | with_reducible exact rfl | (simp (maxDischargeDepth := 9) -implicitDefEqProofs -dsimp only [go_sem, seval]; done)))) | ((with_reducible apply id_one0); (focus (intro tS hS; ((with_reducible refine sl_clipGate g.ands _) <;> (first | (simp (maxDischargeDepth := 9) -implicitDefEqProofs -dsimp only [go_sem, seval, *]; done) | omega | ((with_reducible refine Sub.get hS ?_); simp (maxDischargeDepth := 9) -implicitDefEqProofs -dsimp only [go_sem, seval, *]; done))))); (focus (first | trivial | (simp (maxDischargeDepth := 9) -implicitDefEqProofs -dsimp only [go_sem, seval, *]; done)))))
    all_goals try refine fin_eq ?_
    all_goals first | (rw [andW1 (by omega)]; (repeat' simp (maxDischargeDepth := 9) -implicitDefEqProofs -dsimp only [go_sem, seval, *])) | (rw [andW2 (by omega) (by omega)]; (repeat' simp (maxDischargeDepth := 9) -implicitDefEqProofs -dsimp only [go_sem, seval, *])) | (rw [andW3 (by omega) (by omega) hq]; (repeat' simp (maxDischargeDepth := 9) -implicitDefEqProofs -dsimp only [go_sem, seval, *]) <;> (first | rfl | skip)) | (rw [andW4 (by omega) (by omega) ‹_› (by omega)]; (repeat' simp (maxDischargeDepth := 9) -implicitDefEqProofs -dsimp only [go_sem, seval, *])) | skip
    have hlt : g.ands.length < 1000000 := by
      have := hs.lo
      simp only [Aig.count] at hcn
      omega
    have hs' := hpush (min a b, max a b) ⟨⟨by omega, by omega⟩, ⟨by omega, by omega⟩⟩ hlt
    refine ACalls.one (ACalls.flo (o := o) (x0 := workV { g with ands := g.ands ++ [(min a b, max a b)] } p t 0) ?_ (row_count o { g with ands := g.ands ++ [(min a b, max a b)] } 0 _ (upd_same _ _ _) hs')) ?_
    · (repeat' simp (maxDischargeDepth := 9) -implicitDefEqProofs -dsimp only [go_sem, seval, *])
    have hc' := count_push (g := g) (min a b, max a b)
    repeat' (first | simp (maxDischargeDepth := 9) -implicitDefEqProofs -dsimp only [go_sem, seval, *] | simp (disch := omega) only [wrap64, xor1])
    refine fin_eq ?_
    rw [andW5 (by omega) (by omega) ‹_› (by omega)]
    (repeat' simp (maxDischargeDepth := 9) -implicitDefEqProofs -dsimp only [go_sem, seval, *])
  · have hb : (e != 0) = true := by simpa using he
    repeat' (first | simp (maxDischargeDepth := 9) -implicitDefEqProofs -dsimp only [go_sem, seval, *] | ((with_reducible refine Zt (fun oF hoF hnF hnF' => ?_)); (try simp only [upd_none, ne_eq, not_and] at hoF)))
    refine fin_eq ?_
    (repeat' simp (maxDischargeDepth := 9) -implicitDefEqProofs -dsimp only [go_sem, seval, Aig.andW, *])
theorem row_end (o : Nat) (g : Aig) (a : Int) (σ : Sig) {p : Nat} {t : Tok} (h : σ o = some (workV g p t 0)) :
  ACalls Try.prog 92 [.ptr o 0, .int .i64 a] σ (fun r σ' => r = .ret (.tup [encV g p t, .int .i64 a, .int .i64 0]) ∧ σ' = σ) := by
 refine calls_x mixed Try.func92 b92 n92 rfl q92 (by simp) ?_; unfold c92 r92
 have ez : ((0 : Int) != 0) = false := by decide
 repeat' (first | simp (maxDischargeDepth := 9) -implicitDefEqProofs -dsimp only [go_sem, seval, *] | ((with_reducible refine Zt (fun oF hoF hnF hnF' => ?_)); (try simp only [upd_none, ne_eq, not_and] at hoF)))
 refine fin_eq ?_
 (repeat' simp (maxDischargeDepth := 9) -implicitDefEqProofs -dsimp only [go_sem, seval, *])
theorem row_And (g : Aig) (a b : Int) (σ : Sig) {p : Nat} {t : Tok} (hp : σ p = some (rowF g.flops)) (hs : Wf g) (ha : I64 a) (hb : I64 b) (h0 : (g.And a b).2.2 = 0) :
  ACalls Try.prog 85 [encV g p t, .int .i64 a, .int .i64 b] σ (fun r σ' => r = .ret (.tup [encV (g.And a b).1 p t, .int .i64 (g.And a b).2.1, .int .i64 0]) ∧ σ' = σ) := by
 refine calls_x mixed Try.func85 b85 n85 rfl q85 (by simp) ?_; unfold c85 r85
 have hok : g.checkL g.check [a, b] = 0 → Fine g ∧ g.lit a = true ∧ g.lit b = true := fun h => by
  obtain ⟨h1, h2⟩ := checkL_fine hs h
  exact ⟨h1, h2 a (by simp), h2 b (by simp)⟩
 have hl : ∀ x ∈ [a, b], I64 x := by simp [ha, hb]
 have hA : (g.And a b) = ((g.andW (g.checkL g.check [a, b]) a b).1, (g.andW (g.checkL g.check [a, b]) a b).2.2, 0) := by
  unfold Aig.And Aig.endW at h0 ⊢
  split at h0
  ·rename_i hne; exact absurd h0 hne
  ·rename_i he; rw [if_neg he]
 have hw : (g.andW (g.checkL g.check [a, b]) a b).2.1 = 0 := by
  unfold Aig.And Aig.endW at h0
  split at h0
  ·rename_i hne; exact absurd h0 hne
  ·rename_i he; simpa using he
 have hA2 := fun o τ h => row_and o g (g.checkL g.check [a, b]) a b τ (p := p) (t := t) h hok
 rw [hw] at hA2
 rw [hA]
 clear hA hw h0
 repeat' (first | simp (maxDischargeDepth := 9) -implicitDefEqProofs -dsimp only [go_sem, seval, *] | ((with_reducible refine Zt (fun oF hoF hnF hnF' => ?_)); (try simp only [upd_none, ne_eq, not_and] at hoF)) | ((with_reducible apply ACalls.one1); (focus ((first | with_reducible refine hA2 _ _ ?_ | with_reducible refine row_end (p := p) (t := t) _ (g.andW (g.checkL g.check [a, b]) a b).1 (g.andW (g.checkL g.check [a, b]) a b).2.2 _ ?_) <;> (first | (simp (maxDischargeDepth := 9) -implicitDefEqProofs -dsimp only [go_sem, seval, *]; done) | omega))); (focus (first | trivial | with_reducible exact rfl | (simp (maxDischargeDepth := 9) -implicitDefEqProofs -dsimp only [go_sem, seval]; done)))) | ((with_reducible apply ACalls.newO); (focus ((with_reducible refine ACalls.flA (row_begin (p := p) (t := t) g [a, b] _ ?_ hs ?_ hl) ?_) <;> (first | (simp (maxDischargeDepth := 9) -implicitDefEqProofs -dsimp only [go_sem, seval, *]; done) | omega))); (intro oF hoF hnF hnF'); (try simp only [upd_none, ne_eq, not_and] at hoF)))
 refine fin_eq ?_
 (repeat' simp (maxDischargeDepth := 9) -implicitDefEqProofs -dsimp only [go_sem, seval, *])

/-! The same, of gates whose flops are told. -/
theorem col_count (o : Nat) (g : Aig) (e : Int) (σ : Sig) {t : Tok} (h : σ o = some (workT g t e)) (hs : Small g) :
  ACalls Try.prog 83 [.ptr o 0] σ (fun r σ' => r = .ret (.int .i64 g.count) ∧ σ' = σ) := by
 refine calls_x mixed Try.func83 b83 n83 rfl q83 (by simp) ?_; unfold c83 r83
 obtain ⟨⟨h0, h1, h2, h3, h4, h5, h6⟩, h7, h8⟩ := hs
 repeat' (first | simp (maxDischargeDepth := 9) -implicitDefEqProofs -dsimp only [go_sem, seval, *] | simp (disch := omega) only [wrap64])
 exact fin_id ⟨rfl, rfl⟩
theorem col_first (o : Nat) (g : Aig) (e : Int) (σ : Sig) {t : Tok} (h : σ o = some (workT g t e)) (hs : Small g) :
  ACalls Try.prog 82 [.ptr o 0] σ (fun r σ' => r = .ret (.int .i64 g.first) ∧ σ' = σ) := by
 refine calls_x mixed Try.func82 b82 n82 rfl q82 (by simp) ?_; unfold c82 r82
 obtain ⟨⟨h0, h1, h2, h3, h4, h5, h6⟩, h7, h8⟩ := hs
 repeat' (first | simp (maxDischargeDepth := 9) -implicitDefEqProofs -dsimp only [go_sem, seval, *] | simp (disch := omega) only [wrap64])
 exact fin_id ⟨rfl, rfl⟩
theorem col_lit (o : Nat) (g : Aig) (e a : Int) (σ : Sig) {t : Tok} (h : σ o = some (workT g t e)) (hs : Small g) (ha : I64 a) :
  ACalls Try.prog 81 [.ptr o 0, .int .i64 a] σ (fun r σ' => r = .ret (.bool (g.lit a)) ∧ σ' = σ) := by
 refine calls_x mixed Try.func81 b81 n81 rfl q81 (by simp) ?_; unfold c81 r81
 obtain ⟨ha1, ha2⟩ := ha
 repeat' (first | simp (maxDischargeDepth := 9) -implicitDefEqProofs -dsimp only [go_sem, seval, *] | simp (disch := omega) only [wrap64, tdiv2] | (with_reducible (first | apply Za) <;> intro hq) | ((with_reducible apply ACalls.one1); (focus ((with_reducible refine col_count (t := t) o g e σ h hs) <;> (first | (simp (maxDischargeDepth := 9) -implicitDefEqProofs -dsimp only [go_sem, seval, *]; done) | omega))); (focus (first | trivial | with_reducible exact rfl | (simp (maxDischargeDepth := 9) -implicitDefEqProofs -dsimp only [go_sem, seval]; done)))))
 ·refine fin_eq ?_
  simp (maxDischargeDepth := 9) -implicitDefEqProofs -dsimp only [go_sem, seval]
  rw [Bool.eq_iff_iff]
  simp only [Aig.lit, litN_iff, decide_eq_true_eq]
  omega
 ·refine fin_eq ?_
  simp (maxDischargeDepth := 9) -implicitDefEqProofs -dsimp only [go_sem, seval]
  have : ¬ (0 ≤ a) := by omega
  simp [Aig.lit, Aig.litN, this]
theorem col_check1 (b o : Nat) (f : Flop) (g : Aig) (e : Int) (σ : Sig) {t : Tok} (hb : σ b = some (.cells [.ptr o 0])) (h : σ o = some (workT g t e)) (hs : Small g) (hf : I64 f.next) :
  ACalls Try.prog 87 [encFlop f, .ptr b 0] σ (fun r σ' => r = .ret (.bool (!g.lit f.next)) ∧ σ' = σ) := by
 refine calls_x mixed Try.func87 b87 n87 rfl q87 (by simp) ?_; unfold c87 r87
 repeat' (first | simp (maxDischargeDepth := 9) -implicitDefEqProofs -dsimp only [go_sem, seval, *] | ((with_reducible apply ACalls.one1); (focus ((with_reducible refine col_lit (t := t) o g e f.next σ h hs hf) <;> (first | (simp (maxDischargeDepth := 9) -implicitDefEqProofs -dsimp only [go_sem, seval, *]; done) | omega))); (focus (first | trivial | with_reducible exact rfl | (simp (maxDischargeDepth := 9) -implicitDefEqProofs -dsimp only [go_sem, seval]; done)))))
 exact fin_id ⟨rfl, rfl⟩
theorem col_check2 (b o : Nat) (a : Int) (g : Aig) (e : Int) (σ : Sig) {t : Tok} (hb : σ b = some (.cells [.ptr o 0])) (h : σ o = some (workT g t e)) (hs : Small g) (hf : I64 a) :
  ACalls Try.prog 88 [.int .i64 a, .ptr b 0] σ (fun r σ' => r = .ret (.bool (!g.lit a)) ∧ σ' = σ) := by
 refine calls_x mixed Try.func88 b88 n88 rfl q88 (by simp) ?_; unfold c88 r88
 repeat' (first | simp (maxDischargeDepth := 9) -implicitDefEqProofs -dsimp only [go_sem, seval, *] | ((with_reducible apply ACalls.one1); (focus ((with_reducible refine col_lit (t := t) o g e a σ h hs hf) <;> (first | (simp (maxDischargeDepth := 9) -implicitDefEqProofs -dsimp only [go_sem, seval, *]; done) | omega))); (focus (first | trivial | with_reducible exact rfl | (simp (maxDischargeDepth := 9) -implicitDefEqProofs -dsimp only [go_sem, seval]; done)))))
 exact fin_id ⟨rfl, rfl⟩
theorem col_check (o : Nat) (g : Aig) (e : Int) (σ : Sig) {t : Tok} (h : σ o = some (workT g t e)) (hs : Wf g) :
  ACalls Try.prog 80 [.ptr o 0] σ (fun r σ' => r = .ret (.int .i64 g.check) ∧ σ' = σ) := by
 refine calls_x mixed Try.func80 b80 n80 rfl q80 (by simp) ?_; unfold c80 r80
 by_cases hlo : g.ins < 0
 ·repeat' (first | simp (maxDischargeDepth := 9) -implicitDefEqProofs -dsimp only [go_sem, seval, *] | ((with_reducible refine Zt (fun oF hoF hnF hnF' => ?_)); (try simp only [upd_none, ne_eq, not_and] at hoF)))
  refine fin_eq ?_
  have : g.check = 1 := by simp [Aig.check, hlo]
  (repeat' simp (maxDischargeDepth := 9) -implicitDefEqProofs -dsimp only [go_sem, seval, this, *])
 by_cases hhi : 65536 < g.ins
 ·repeat' (first | simp (maxDischargeDepth := 9) -implicitDefEqProofs -dsimp only [go_sem, seval, gt_iff_lt, *] | ((with_reducible refine Zt (fun oF hoF hnF hnF' => ?_)); (try simp only [upd_none, ne_eq, not_and] at hoF)))
  refine fin_eq ?_
  have : g.check = 2 := by simp [Aig.check, hlo, hhi]
  (repeat' simp (maxDischargeDepth := 9) -implicitDefEqProofs -dsimp only [go_sem, seval, this, *])
 have hsm : Small g := ⟨hs, by omega, by omega⟩
 have hfl := hs.flops
 have hol := hs.outs
 repeat' (first | simp (maxDischargeDepth := 9) -implicitDefEqProofs -dsimp only [go_sem, seval, gt_iff_lt, *] | (with_reducible (first | apply Zb | apply Zc | apply Zr) <;> intro hq) | ((with_reducible refine Zt (fun oF hoF hnF hnF' => ?_)); (try simp only [upd_none, ne_eq, not_and] at hoF)) | ((with_reducible apply ACalls.one1); (focus ((first | with_reducible refine col_count (t := t) o g e _ ?_ hsm | with_reducible refine sl_containsFlop (fun f => !g.lit f.next) g.flops ?_ _ (fun f hf => col_check1 (t := t) _ o f g e _ ?_ ?_ hsm (hs.nexts f hf)) | with_reducible refine sl_containsIntT (fun a => !g.lit a) g.outs t ?_ _ (fun a ha => col_check2 (t := t) _ o a g e _ ?_ ?_ hsm (hs.lits a ha))) <;> (first | (simp (maxDischargeDepth := 9) -implicitDefEqProofs -dsimp only [go_sem, seval, *]; done) | omega))); (focus (first | trivial | with_reducible exact rfl | (simp (maxDischargeDepth := 9) -implicitDefEqProofs -dsimp only [go_sem, seval]; done)))))
 ·refine fin_eq ?_
  have : g.check = 2 := by simp [Aig.check, hlo, hhi, hq]
  (repeat' simp (maxDischargeDepth := 9) -implicitDefEqProofs -dsimp only [go_sem, seval, this, *])
 ·refine fin_eq ?_
  have : g.check = 2 := by simp [Aig.check, hlo, hhi, hq]
  (repeat' simp (maxDischargeDepth := 9) -implicitDefEqProofs -dsimp only [go_sem, seval, this, *])
 ·refine fin_eq ?_
  have : g.check = 1 := by simp [Aig.check, Aig.good, hlo, hhi, *]
  (repeat' simp (maxDischargeDepth := 9) -implicitDefEqProofs -dsimp only [go_sem, seval, this, *])
 ·refine fin_eq ?_
  have : g.check = 1 := by simp [Aig.check, Aig.good, hlo, hhi, *]
  (repeat' simp (maxDischargeDepth := 9) -implicitDefEqProofs -dsimp only [go_sem, seval, this, *])
 ·refine loop_rule (fun i : Nat => [(1, some (.ptr oF 0)), (52, some (.slice (g.ands.map encGate) .no)), (53, some (.int .i64 g.ands.length)), (54, some (.int .i64 i))]) (fun _ => upd σ oF (.cells [.ptr o 0])) (fun i => i ≤ g.ands.length ∧ ∀ j, (hj : j < g.ands.length) → j < i → (0 ≤ g.ands[j].1 ∧ g.ands[j].1 < 2 * (g.first + j)) ∧ (0 ≤ g.ands[j].2 ∧ g.ands[j].2 < 2 * (g.first + j))) (fun i => g.ands.length - i) 0 ?_ ?_
  ·(repeat' simp (maxDischargeDepth := 9) -implicitDefEqProofs -dsimp only [go_sem, seval, *]) <;> (repeat' refine And.intro ?_ ?_) <;> (first | omega | skip)
  ·rintro i ⟨hi, hb⟩
   have hA := hs.ands
   have hF := hs.flops
   have hfd : 1 ≤ g.first ∧ g.first ≤ 3000000 := by
    have := hsm.lo; have := hsm.hi
    unfold Aig.first; omega
   by_cases hlt : i < g.ands.length
   ·have hgate := hs.gates _ (List.getElem_mem hlt)
    obtain ⟨⟨g1, g2⟩, g3, g4⟩ := hgate
    repeat' (first | simp (maxDischargeDepth := 9) -implicitDefEqProofs -dsimp only [go_sem, seval, ge_iff_le, *] | simp (disch := omega) only [wrap64] | (with_reducible (first | apply Zb | apply Zc | apply Zr) <;> intro hq) | ((with_reducible refine Zu ?_ ?_); focus omega) | ((with_reducible refine Zt (fun oF hoF hnF hnF' => ?_)); (try simp only [upd_none, ne_eq, not_and] at hoF)) | ((with_reducible apply id_one0); (focus (intro tS hS; ((with_reducible refine col_first (t := t) o g e _ ?_ hsm) <;> (first | (simp (maxDischargeDepth := 9) -implicitDefEqProofs -dsimp only [go_sem, seval, *]; done) | omega | ((with_reducible refine Sub.get hS ?_); simp (maxDischargeDepth := 9) -implicitDefEqProofs -dsimp only [go_sem, seval, *]; done))))); (focus (first | trivial | (simp (maxDischargeDepth := 9) -implicitDefEqProofs -dsimp only [go_sem, seval, *]; done)))))
    ·have : g.check = 1 := by
      have := gatesOk_false (n := g.first) hlt (by omega)
      simp [Aig.check, Aig.good, hlo, hhi, *]
     refine fin_eq ?_
     (repeat' simp (maxDischargeDepth := 9) -implicitDefEqProofs -dsimp only [go_sem, seval, this, *])
    ·refine loop_next _ _ _ _ (i + 1) ?_; (repeat' simp (maxDischargeDepth := 9) -implicitDefEqProofs -dsimp only [go_sem, seval, *]) <;> (repeat' refine And.intro ?_ ?_) <;> (first | omega | skip)
     intro j hj h
     rcases Nat.lt_or_ge j i with h' | h'
     ·exact hb j hj h'
     ·obtain rfl : j = i := by omega
      omega
    ·have : g.check = 1 := by
      have := gatesOk_false (n := g.first) hlt (by omega)
      simp [Aig.check, Aig.good, hlo, hhi, *]
     refine fin_eq ?_
     (repeat' simp (maxDischargeDepth := 9) -implicitDefEqProofs -dsimp only [go_sem, seval, this, *])
   ·repeat' simp (maxDischargeDepth := 9) -implicitDefEqProofs -dsimp only [go_sem, seval, *]
    refine fin_eq ?_
    have : g.check = 0 := by
     have : Aig.gatesOk g.first g.ands = true := gatesOk_iff.2 fun j hj => hb j hj (by omega)
     simp [Aig.check, Aig.good, hlo, hhi, *]
    (repeat' simp (maxDischargeDepth := 9) -implicitDefEqProofs -dsimp only [go_sem, seval, this, *])
theorem col_begin (g : Aig) (l : List Int) (σ : Sig) {t : Tok} (hs : Wf g) (hl : l.length ≤ 1000000) (hi : ∀ a ∈ l, I64 a) :
  ACalls Try.prog 59 [encT g t, .slice (l.map encInt) .no] σ (NewO σ (fun o => .ptr o 0) (workT g t (g.checkL g.check l))) := by
 refine calls_x mixed Try.func59 b59 n59 rfl q59 (by simp) ?_; unfold c59 r59
 repeat' (first | simp (maxDischargeDepth := 9) -implicitDefEqProofs -dsimp only [go_sem, seval, *] | ((with_reducible refine Zt (fun oF hoF hnF hnF' => ?_)); (try simp only [upd_none, ne_eq, not_and] at hoF)) | ((with_reducible apply ACalls.one1); (focus ((with_reducible refine col_check (t := t) _ g 0 _ ?_ hs) <;> (first | (simp (maxDischargeDepth := 9) -implicitDefEqProofs -dsimp only [go_sem, seval, *]; done) | omega))); (focus (first | trivial | with_reducible exact rfl | (simp (maxDischargeDepth := 9) -implicitDefEqProofs -dsimp only [go_sem, seval]; done)))))
 refine loop_rule (fun i : Nat => [(5, some (.ptr oF 0)), (16, some (.slice (l.map encInt) .no)), (17, some (.int .i64 l.length)), (18, some (.int .i64 i))]) (fun i => upd σ oF (workT g t (g.checkL g.check (l.take i)))) (fun i => i ≤ l.length) (fun i => l.length - i) 0 ?_ ?_
 ·(repeat' simp (maxDischargeDepth := 9) -implicitDefEqProofs -dsimp only [go_sem, seval, Aig.checkL, *]) <;> (first | omega | skip)
 ·intro i hi'
  by_cases hlt : i < l.length
  ·have hi2 := hi _ (List.getElem_mem hlt)
   have step : g.checkL g.check (l.take (i + 1)) = if g.checkL g.check (l.take i) = 0 ∧ g.lit l[i] = false then 1 else g.checkL g.check (l.take i) := by
    rw [List.take_add_one, List.getElem?_eq_getElem hlt]
    exact checkL_snoc g _ _ _
   by_cases he : g.checkL g.check (l.take i) = 0
   ·have hsm : Small g := checkL_small hs he
    repeat' (first | simp (maxDischargeDepth := 9) -implicitDefEqProofs -dsimp only [go_sem, seval, *] | simp (disch := omega) only [wrap64] | (with_reducible (first | apply Zr) <;> intro hq) | ((with_reducible refine Zu ?_ ?_); focus omega) | ((with_reducible apply ACalls.one1); (focus ((with_reducible refine col_lit (t := t) _ g 0 l[i] _ ?_ hsm hi2) <;> (first | (simp (maxDischargeDepth := 9) -implicitDefEqProofs -dsimp only [go_sem, seval, *]; done) | omega))); (focus (first | trivial | with_reducible exact rfl | (simp (maxDischargeDepth := 9) -implicitDefEqProofs -dsimp only [go_sem, seval]; done)))))
    ·have st : g.checkL g.check (l.take (i + 1)) = 0 := by rw [step]; simp [*]
     refine loop_next _ _ _ _ (i + 1) ?_; (repeat' simp (maxDischargeDepth := 9) -implicitDefEqProofs -dsimp only [go_sem, seval, *]) <;> (repeat' refine And.intro ?_ ?_) <;> (first | omega | skip)
    ·have st : g.checkL g.check (l.take (i + 1)) = 1 := by rw [step]; simp [*]
     refine loop_next _ _ _ _ (i + 1) ?_; (repeat' simp (maxDischargeDepth := 9) -implicitDefEqProofs -dsimp only [go_sem, seval, *]) <;> (repeat' refine And.intro ?_ ?_) <;> (first | omega | skip)
   ·have st : g.checkL g.check (l.take (i + 1)) = g.checkL g.check (l.take i) := by rw [step]; simp [*]
    have hb : (g.checkL g.check (l.take i) == 0) = false := by simpa using he
    repeat' (first | simp (maxDischargeDepth := 9) -implicitDefEqProofs -dsimp only [go_sem, seval, *] | simp (disch := omega) only [wrap64] | ((with_reducible refine Zu ?_ ?_); focus omega))
    refine loop_next _ _ _ _ (i + 1) ?_; (repeat' simp (maxDischargeDepth := 9) -implicitDefEqProofs -dsimp only [go_sem, seval, *]) <;> (repeat' refine And.intro ?_ ?_) <;> (first | omega | skip)
  ·repeat' simp (maxDischargeDepth := 9) -implicitDefEqProofs -dsimp only [go_sem, seval, *]
   refine fin_new oF hoF ?_
   have e0 : l.take i = l := List.take_of_length_le (by omega)
   (repeat' simp (maxDischargeDepth := 9) -implicitDefEqProofs -dsimp only [go_sem, seval, e0, *])
theorem col_and (o : Nat) (g : Aig) (e a b : Int) (σ : Sig) {t : Tok} (h : σ o = some (workT g t e)) (hok : e = 0 → Fine g ∧ g.lit a = true ∧ g.lit b = true) :
    ACalls Try.prog 93 [.ptr o 0, .int .i64 a, .int .i64 b] σ (fun r σ' => r = .ret (.int .i64 (g.andW e a b).2.2) ∧ σ' = upd σ o (workT (g.andW e a b).1 t (g.andW e a b).2.1)) := by
  refine calls_x mixed Try.func93 b93 n93 rfl q93 (by simp) ?_; unfold c93 r93
  by_cases he : e = 0
  · subst he
    obtain ⟨hfine, ha, hb⟩ := hok rfl
    have hs := hfine.toSmall
    have hcn := hfine.cnt
    have ha' := litN_iff.1 ha
    have hb' := litN_iff.1 hb
    have hcnt : 0 ≤ g.count ∧ g.count ≤ 3000000 := by
      have := hs.lo; have := hs.hi; have := hs.flops; have := hs.ands
      unfold Aig.count; omega
    have hfst : 0 ≤ g.first ∧ g.first ≤ 3000000 := by
      have := hs.lo; have := hs.hi; have := hs.flops
      unfold Aig.first; omega
    have hfb := idxF_bounds (fun x : Int × Int => decide (min x.1 x.2 = min a b) && decide (max x.1 x.2 = max a b)) g.ands
    have hal := hs.ands
    have hpush : ∀ x : Int × Int, I64 x.1 ∧ I64 x.2 → g.ands.length < 1000000 → Small { g with ands := g.ands ++ [x] } := fun x hx hl => { hs with
      ands := by simp; omega
      gates := fun y hy => by
        rcases List.mem_append.1 hy with h | h
        · exact hs.gates y h
        · simp at h; subst h; exact hx }
    repeat' (first | simp (maxDischargeDepth := 9) -implicitDefEqProofs -dsimp only [go_sem, seval, ge_iff_le, *] | simp (disch := omega) only [wrap64, xor1] | (with_reducible (first | apply Zc | apply Zf | apply Zl) <;> intro hq) | ((with_reducible refine Zv ?_ ?_); focus (first | omega | exact rfl)) | ((with_reducible refine Zt (fun oF hoF hnF hnF' => ?_)); (try simp only [upd_none, ne_eq, not_and] at hoF)) | ((with_reducible apply ACalls.one1); (focus ((first | with_reducible refine col_count (t := t) o g 0 _ ?_ hs | with_reducible refine col_first (t := t) o g 0 _ ?_ hs | with_reducible refine sl_indexGate (fun x : Int × Int => decide (min x.1 x.2 = min a b) && decide (max x.1 x.2 = max a b)) g.ands ?_ _ (fun x _ => aig_and1 _ _ x (min a b) (max a b) _ ?_ ?_)) <;> (first | (simp (maxDischargeDepth := 9) -implicitDefEqProofs -dsimp only [go_sem, seval, *]; done) | omega))); (focus (first | trivial | with_reducible exact rfl | (simp (maxDischargeDepth := 9) -implicitDefEqProofs -dsimp only [go_sem, seval]; done)))) | ((with_reducible apply id_one0); (focus (intro tS hS; ((with_reducible refine sl_clipGate g.ands _) <;> (first | (simp (maxDischargeDepth := 9) -implicitDefEqProofs -dsimp only [go_sem, seval, *]; done) | omega | ((with_reducible refine Sub.get hS ?_); simp (maxDischargeDepth := 9) -implicitDefEqProofs -dsimp only [go_sem, seval, *]; done))))); (focus (first | trivial | (simp (maxDischargeDepth := 9) -implicitDefEqProofs -dsimp only [go_sem, seval, *]; done)))))
    all_goals try refine fin_eq ?_
    all_goals first | (rw [andW1 (by omega)]; (repeat' simp (maxDischargeDepth := 9) -implicitDefEqProofs -dsimp only [go_sem, seval, *])) | (rw [andW2 (by omega) (by omega)]; (repeat' simp (maxDischargeDepth := 9) -implicitDefEqProofs -dsimp only [go_sem, seval, *])) | (rw [andW3 (by omega) (by omega) hq]; (repeat' simp (maxDischargeDepth := 9) -implicitDefEqProofs -dsimp only [go_sem, seval, *]) <;> (first | rfl | skip)) | (rw [andW4 (by omega) (by omega) ‹_› (by omega)]; (repeat' simp (maxDischargeDepth := 9) -implicitDefEqProofs -dsimp only [go_sem, seval, *])) | skip
    have hlt : g.ands.length < 1000000 := by
      have := hs.lo
      simp only [Aig.count] at hcn
      omega
    have hs' := hpush (min a b, max a b) ⟨⟨by omega, by omega⟩, ⟨by omega, by omega⟩⟩ hlt
    refine ACalls.one (ACalls.flo (o := o) (x0 := workT { g with ands := g.ands ++ [(min a b, max a b)] } t 0) ?_ (col_count o { g with ands := g.ands ++ [(min a b, max a b)] } 0 _ (upd_same _ _ _) hs')) ?_
    · (repeat' simp (maxDischargeDepth := 9) -implicitDefEqProofs -dsimp only [go_sem, seval, *])
    have hc' := count_push (g := g) (min a b, max a b)
    repeat' (first | simp (maxDischargeDepth := 9) -implicitDefEqProofs -dsimp only [go_sem, seval, *] | simp (disch := omega) only [wrap64, xor1])
    refine fin_eq ?_
    rw [andW5 (by omega) (by omega) ‹_› (by omega)]
    (repeat' simp (maxDischargeDepth := 9) -implicitDefEqProofs -dsimp only [go_sem, seval, *])
  · have hb : (e != 0) = true := by simpa using he
    repeat' (first | simp (maxDischargeDepth := 9) -implicitDefEqProofs -dsimp only [go_sem, seval, *] | ((with_reducible refine Zt (fun oF hoF hnF hnF' => ?_)); (try simp only [upd_none, ne_eq, not_and] at hoF)))
    refine fin_eq ?_
    (repeat' simp (maxDischargeDepth := 9) -implicitDefEqProofs -dsimp only [go_sem, seval, Aig.andW, *])
theorem col_end (o : Nat) (g : Aig) (a : Int) (σ : Sig) {t : Tok} (h : σ o = some (workT g t 0)) :
  ACalls Try.prog 92 [.ptr o 0, .int .i64 a] σ (fun r σ' => r = .ret (.tup [encT g t, .int .i64 a, .int .i64 0]) ∧ σ' = σ) := by
 refine calls_x mixed Try.func92 b92 n92 rfl q92 (by simp) ?_; unfold c92 r92
 have ez : ((0 : Int) != 0) = false := by decide
 repeat' (first | simp (maxDischargeDepth := 9) -implicitDefEqProofs -dsimp only [go_sem, seval, *] | ((with_reducible refine Zt (fun oF hoF hnF hnF' => ?_)); (try simp only [upd_none, ne_eq, not_and] at hoF)))
 refine fin_eq ?_
 (repeat' simp (maxDischargeDepth := 9) -implicitDefEqProofs -dsimp only [go_sem, seval, *])
theorem col_And (g : Aig) (a b : Int) (σ : Sig) {t : Tok} (hs : Wf g) (ha : I64 a) (hb : I64 b) (h0 : (g.And a b).2.2 = 0) :
  ACalls Try.prog 85 [encT g t, .int .i64 a, .int .i64 b] σ (fun r σ' => r = .ret (.tup [encT (g.And a b).1 t, .int .i64 (g.And a b).2.1, .int .i64 0]) ∧ σ' = σ) := by
 refine calls_x mixed Try.func85 b85 n85 rfl q85 (by simp) ?_; unfold c85 r85
 have hok : g.checkL g.check [a, b] = 0 → Fine g ∧ g.lit a = true ∧ g.lit b = true := fun h => by
  obtain ⟨h1, h2⟩ := checkL_fine hs h
  exact ⟨h1, h2 a (by simp), h2 b (by simp)⟩
 have hl : ∀ x ∈ [a, b], I64 x := by simp [ha, hb]
 have hA : (g.And a b) = ((g.andW (g.checkL g.check [a, b]) a b).1, (g.andW (g.checkL g.check [a, b]) a b).2.2, 0) := by
  unfold Aig.And Aig.endW at h0 ⊢
  split at h0
  ·rename_i hne; exact absurd h0 hne
  ·rename_i he; rw [if_neg he]
 have hw : (g.andW (g.checkL g.check [a, b]) a b).2.1 = 0 := by
  unfold Aig.And Aig.endW at h0
  split at h0
  ·rename_i hne; exact absurd h0 hne
  ·rename_i he; simpa using he
 have hA2 := fun o τ h => col_and o g (g.checkL g.check [a, b]) a b τ (t := t) h hok
 rw [hw] at hA2
 rw [hA]
 clear hA hw h0
 repeat' (first | simp (maxDischargeDepth := 9) -implicitDefEqProofs -dsimp only [go_sem, seval, *] | ((with_reducible refine Zt (fun oF hoF hnF hnF' => ?_)); (try simp only [upd_none, ne_eq, not_and] at hoF)) | ((with_reducible apply ACalls.one1); (focus ((first | with_reducible refine hA2 _ _ ?_ | with_reducible refine col_end (t := t) _ (g.andW (g.checkL g.check [a, b]) a b).1 (g.andW (g.checkL g.check [a, b]) a b).2.2 _ ?_) <;> (first | (simp (maxDischargeDepth := 9) -implicitDefEqProofs -dsimp only [go_sem, seval, *]; done) | omega))); (focus (first | trivial | with_reducible exact rfl | (simp (maxDischargeDepth := 9) -implicitDefEqProofs -dsimp only [go_sem, seval]; done)))) | ((with_reducible apply ACalls.newO); (focus ((with_reducible refine ACalls.flA (col_begin (t := t) g [a, b] _ hs ?_ hl) ?_) <;> (first | (simp (maxDischargeDepth := 9) -implicitDefEqProofs -dsimp only [go_sem, seval, *]; done) | omega))); (intro oF hoF hnF hnF'); (try simp only [upd_none, ne_eq, not_and] at hoF)))
 refine fin_eq ?_
 (repeat' simp (maxDischargeDepth := 9) -implicitDefEqProofs -dsimp only [go_sem, seval, *])
end Go.Proofs.Ytapnlmhfacoceaa

namespace Go.Proofs.Ytapnlmhfacoceaa
open Abs Fil Fil.Rw
open Eqv (moveL)
def flV (p : Nat) (l : List Flop) : AV := if l = [] then .slice [] .no else .vec p l.length
def flO (l : List Flop) : AObj := if l = [] then .virt 2 else rowF l
theorem flV_cells (p : Nat) (l : List Flop) : cellsA (flV p l) = [flV p l] := by unfold flV; split <;> rfl
theorem flV_one (p : Nat) (l : List Flop) : oneA (flV p l) = true := by unfold flV; split <;> rfl
abbrev bldC (old g : Aig) (F : AV) (ta to : Tok) (L V : AV) : AObj :=
 .cells [.int .i64 old.ins, .slice (old.flops.map encFlop) .no, .slice (old.ands.map encGate) .no, .slice (old.outs.map encInt) .no, .int .i64 g.ins, F, .slice (g.ands.map encGate) ta, .slice (g.outs.map encInt) to, L, V]
abbrev ilist (l : List Int) (t : Tok) : AV := .slice (l.map encInt) t
theorem and_flops {g : Aig} (hs : Wf g) {a b : Int} (h : (g.And a b).2.2 = 0) : (g.And a b).1.flops = g.flops ∧ (g.And a b).1.ins = g.ins ∧ (g.And a b).1.outs = g.outs := by
 obtain ⟨_, _, e, _⟩ := (and_res hs a b).check hs h
 exact ⟨e.flops, e.ins, e.outs⟩
theorem bld_And (g : Aig) (a b : Int) (σ : Sig) (p : Nat) (t : Tok) (hp : σ p = some (flO g.flops)) (hs : Wf g) (ha : I64 a) (hb : I64 b) (h0 : (g.And a b).2.2 = 0) :
  ACalls Try.prog 85 [.agg [.int .i64 g.ins, flV p g.flops, .slice (g.ands.map encGate) .no, .slice (g.outs.map encInt) t], .int .i64 a, .int .i64 b] σ
   (fun r σ' => r = .ret (.tup [.agg [.int .i64 g.ins, flV p g.flops, .slice ((g.And a b).1.ands.map encGate) .no, .slice (g.outs.map encInt) t], .int .i64 (g.And a b).2.1, .int .i64 0]) ∧ σ' = σ) := by
 obtain ⟨e1, e2, e3⟩ := and_flops hs h0
 by_cases hf : g.flops = []
 ·have h := col_And g a b σ (t := t) hs ha hb h0
  unfold flV
  rw [if_pos hf]
  simp only [encT, aigT, hf, List.map_nil] at h
  refine h.mono fun r s hr => ?_
  rw [e1, e2, e3, hf] at hr
  exact hr
 ·have hp' : σ p = some (rowF g.flops) := by rw [hp]; unfold flO; rw [if_neg hf]
  have h := row_And g a b σ (t := t) hp' hs ha hb h0
  unfold flV
  rw [if_neg hf]
  refine h.mono fun r s hr => ?_
  simp only [encV, aigV] at hr
  rw [e1, e2, e3] at hr
  exact hr
theorem rw_first (o : Nat) (old : Aig) (rest : List AV) (σ : Sig) (hB : σ o = some (.cells (.int .i64 old.ins :: .slice (old.flops.map encFlop) .no :: rest))) (hs : Small old) :
  ACalls Try.prog 40 [.ptr o 0] σ (fun r σ' => r = .ret (.int .i64 old.first) ∧ σ' = σ) := by
 refine calls_x mixed Try.func40 b40 n40 rfl q40 (by simp) ?_; unfold c40 r40
 obtain ⟨⟨h0, h1, h2, h3, h4, h5, h6⟩, h7, h8⟩ := hs
 repeat' (first | simp (maxDischargeDepth := 9) -implicitDefEqProofs -dsimp only [go_sem, seval, *] | simp (disch := omega) only [wrap64])
 refine fin_eq ?_
 (repeat' simp (maxDischargeDepth := 9) -implicitDefEqProofs -dsimp only [go_sem, seval, Aig.first, *])
theorem rw_one (v : Bool) (σ : Sig) : ACalls Try.prog 69 [.bool v] σ (fun r σ' => r = .ret (.int .i64 (bit v)) ∧ σ' = σ) := by
 refine calls_x mixed Try.func69 b69 n69 rfl q69 (by simp) ?_; unfold c69 r69
 cases v with
 | true =>
  repeat' simp (maxDischargeDepth := 9) -implicitDefEqProofs -dsimp only [go_sem, seval, *]
  refine fin_eq ?_
  (repeat' simp (maxDischargeDepth := 9) -implicitDefEqProofs -dsimp only [go_sem, seval, bit, *])
 | false =>
  repeat' simp (maxDischargeDepth := 9) -implicitDefEqProofs -dsimp only [go_sem, seval, *]
  refine fin_eq ?_
  (repeat' simp (maxDischargeDepth := 9) -implicitDefEqProofs -dsimp only [go_sem, seval, bit, *])
theorem xor_bit (f a : Int) (h0 : 0 ≤ f) (h1 : f ≤ 4611686018427387904) (ha : 0 ≤ a) : IntKind.i64.wrap ((BitVec.ofInt IntKind.i64.bits f ^^^ BitVec.ofInt IntKind.i64.bits (a % 2)).toNat : Nat) = if a % 2 = 0 then f else turn f := by
 by_cases h : a % 2 = 0
 ·rw [if_pos h, h]
  have e : (BitVec.ofInt IntKind.i64.bits f ^^^ BitVec.ofInt IntKind.i64.bits 0).toNat = f.toNat := by
   show (BitVec.ofInt 64 f ^^^ BitVec.ofInt 64 0).toNat = f.toNat
   simp [BitVec.toNat_ofInt]; omega
  rw [e, Int.toNat_of_nonneg h0]
  exact wrap64 _ (by omega) (by omega)
 ·rw [if_neg h, show a % 2 = 1 by omega]
  exact xor1 f (by omega) (by omega)
theorem rw_lit (o : Nat) (c0 c1 c2 c3 c4 c5 c6 c7 c9 : AV) (lits : List Int) (t : Tok) (a : Int) (σ : Sig) (hB : σ o = some (.cells [c0, c1, c2, c3, c4, c5, c6, c7, ilist lits t, c9])) (h0 : 0 ≤ a) (h1 : (a / 2).toNat < lits.length)
  (hl : ∀ x ∈ lits, 0 ≤ x ∧ x ≤ 1000000) (ha : a ≤ 1000000) :
  ACalls Try.prog 41 [.ptr o 0, .int .i64 a] σ (fun r σ' => r = .ret (.int .i64 (moveL lits a)) ∧ σ' = σ) := by
 refine calls_x mixed Try.func41 b41 n41 rfl q41 (by simp) ?_; unfold c41 r41
 have hg : lits[(a / 2).toNat] = lits.getD (a / 2).toNat 0 := by simp [List.getD_eq_getElem?_getD, h1]
 obtain ⟨hf0, hf1⟩ := hl _ (List.getElem_mem h1)
 rw [hg] at hf0 hf1
 obtain ⟨f, hf⟩ : ∃ f, lits.getD (a / 2).toNat 0 = f := ⟨_, rfl⟩
 rw [hf] at hg hf0 hf1
 have hx := xor_bit f a hf0 (by omega) h0
 have hm : moveL lits a = if a % 2 = 0 then f else turn f := by unfold moveL; rw [hf]
 rw [hm]
 rw [← hx]
 clear hx hm hl
 repeat' (first | simp (maxDischargeDepth := 9) -implicitDefEqProofs -dsimp only [go_sem, seval, *] | simp (disch := omega) only [wrap64, tdiv2, and1] | ((with_reducible refine Zv ?_ ?_); focus (first | omega | exact rfl)) | ((with_reducible refine Zu ?_ ?_); focus omega))
 refine fin_eq ?_
 (repeat' simp (maxDischargeDepth := 9) -implicitDefEqProofs -dsimp only [go_sem, seval, *])
theorem rw_and (o p oV : Nat) (old : Aig) (b : B) (x y : Int) (to : Tok) (L : AV) (σ : Sig) (hB : σ o = some (bldC old b.g (flV p b.g.flops) .no to L (ilist b.lev (.own oV)))) (hL : cellsA L = [L]) (hL1 : oneA L = true)
  (hp : σ p = some (flO b.g.flops)) (hV : σ oV = some (.grow 1 b.lev.length)) (n1 : ¬ o = p) (n1' : ¬ p = o) (n2 : ¬ o = oV) (n2' : ¬ oV = o) (n3 : ¬ p = oV) (n3' : ¬ oV = p)
  (hs : Wf b.g) (hx0 : 0 ≤ x) (hx1 : (x / 2).toNat < b.lev.length) (hy0 : 0 ≤ y) (hy1 : (y / 2).toNat < b.lev.length) (hlev : ∀ v ∈ b.lev, 0 ≤ v ∧ v ≤ 1000000) (hll : b.lev.length ≤ 1000000) (h0 : (b.g.And x y).2.2 = 0) (hx2 : x ≤ 10000000) (hy2 : y ≤ 10000000) :
  ACalls Try.prog 71 [.ptr o 0, .int .i64 x, .int .i64 y] σ
   (fun r σ' => r = .ret (.int .i64 (andB b x y).2) ∧ σ' = upd (upd σ o (bldC old (andB b x y).1.g (flV p b.g.flops) .no to L (ilist (andB b x y).1.lev (.own oV)))) oV (.grow 1 (andB b x y).1.lev.length)) := by
 refine calls_x mixed Try.func71 b71 n71 rfl q71 (by simp) ?_; unfold c71 r71
 obtain ⟨e1, e2, e3⟩ := and_flops hs h0
 have hA := fun τ h => bld_And b.g x y τ p to h hs ⟨by omega, by omega⟩ ⟨by omega, by omega⟩ h0
 have hal := hs.ands
 have hrl : (b.g.And x y).1.ands.length ≤ 2000000 := by
  have := (and_res hs x y).check hs h0
  omega
 unfold andB
 obtain ⟨⟨g', z, e⟩, hr⟩ : ∃ r, b.g.And x y = r := ⟨_, rfl⟩
 rw [hr] at hA e1 e2 e3 hrl ⊢
 simp only at hA e1 e2 e3 hrl ⊢
 have c1 := flV_cells p b.g.flops
 have c2 := flV_one p b.g.flops
 obtain ⟨F, hF⟩ : ∃ F, flV p b.g.flops = F := ⟨_, rfl⟩
 rw [hF] at hA hB c1 c2 ⊢
 obtain ⟨F0, hF0⟩ : ∃ F, flO b.g.flops = F := ⟨_, rfl⟩
 rw [hF0] at hA hp
 have gx : b.lev[(x / 2).toNat] = b.lev.getD (x / 2).toNat 0 := by simp [List.getD_eq_getElem?_getD, hx1]
 have gy : b.lev[(y / 2).toNat] = b.lev.getD (y / 2).toNat 0 := by simp [List.getD_eq_getElem?_getD, hy1]
 obtain ⟨u1, u2⟩ := hlev _ (List.getElem_mem hx1)
 obtain ⟨v1, v2⟩ := hlev _ (List.getElem_mem hy1)
 rw [gx] at u1 u2
 rw [gy] at v1 v2
 obtain ⟨u, hu⟩ : ∃ u, b.lev.getD (x / 2).toNat 0 = u := ⟨_, rfl⟩
 obtain ⟨v, hv⟩ : ∃ v, b.lev.getD (y / 2).toNat 0 = v := ⟨_, rfl⟩
 rw [hu] at gx u1 u2 ⊢
 rw [hv] at gy v1 v2 ⊢
 clear hr hlev hs h0 hF hF0 hu hv
 by_cases hlt : b.g.ands.length < g'.ands.length
 ·have hlt' : (b.g.ands.length : Int) < g'.ands.length := by omega
  rw [if_pos hlt]
  have hb : (if v > u then v else u) = max u v := by omega
  clear hlt
  repeat' (first | simp (maxDischargeDepth := 9) -implicitDefEqProofs -dsimp only [go_sem, seval, gt_iff_lt, *] | simp (disch := omega) only [wrap64, tdiv2] | ((with_reducible refine Zv ?_ ?_); focus (first | omega | exact rfl)) | ((with_reducible refine Zu ?_ ?_); focus omega) | ((with_reducible refine Zt (fun oF hoF hnF hnF' => ?_)); (try simp only [upd_none, ne_eq, not_and] at hoF)) | ((with_reducible apply ACalls.one1); (focus ((with_reducible refine hA _ ?_) <;> (first | (simp (maxDischargeDepth := 9) -implicitDefEqProofs -dsimp only [go_sem, seval, *]; done) | omega))); (focus (first | trivial | with_reducible exact rfl | (simp (maxDischargeDepth := 9) -implicitDefEqProofs -dsimp only [go_sem, seval]; done)))))
  all_goals
   refine fin_eq ?_
   (repeat' simp (maxDischargeDepth := 9) -implicitDefEqProofs -dsimp only [go_sem, seval, ilist, List.map_append, List.map_cons, List.map_nil, *])
 ·have hlt' : ¬ (b.g.ands.length : Int) < g'.ands.length := by omega
  rw [if_neg hlt]
  clear hlt gx gy
  repeat' (first | simp (maxDischargeDepth := 9) -implicitDefEqProofs -dsimp only [go_sem, seval, gt_iff_lt, *] | ((with_reducible refine Zt (fun oF hoF hnF hnF' => ?_)); (try simp only [upd_none, ne_eq, not_and] at hoF)) | ((with_reducible apply ACalls.one1); (focus ((with_reducible refine hA _ ?_) <;> (first | (simp (maxDischargeDepth := 9) -implicitDefEqProofs -dsimp only [go_sem, seval, *]; done) | omega))); (focus (first | trivial | with_reducible exact rfl | (simp (maxDischargeDepth := 9) -implicitDefEqProofs -dsimp only [go_sem, seval]; done)))))
  refine fin_eq ?_
  (repeat' simp (maxDischargeDepth := 9) -implicitDefEqProofs -dsimp only [go_sem, seval, *])
end Go.Proofs.Ytapnlmhfacoceaa

