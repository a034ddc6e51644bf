/- equiv: contract of Forks. -/
import Derived.Test.YtjichkelfhcbcaaEqForks
set_option linter.unusedSimpArgs false
set_option linter.unusedVariables false
namespace Fil.Eqv
open Abs
theorem andW_fit {g : Aig} {p q : Int} (h : g.count < 65536) : (g.andW 0 p q).2.1 = 0 := by
  have hn : g.andO p q ≠ none := by
    unfold Aig.andO
    simp only
    split
    · simp
    · split
      · simp
      · split
        · simp
        · split
          · omega
          · simp
  unfold Aig.andW
  rw [if_neg (by simp)]
  cases ho : g.andO p q with
  | none => exact absurd ho hn
  | some r => rfl
theorem And_fit {g : Aig} {a b : Int} (hc : g.check = 0) (ha : g.lit a = true) (hb : g.lit b = true) (h : g.count < 65536) : (g.And a b).2.2 = 0 := by
  unfold Aig.And
  rw [checkL_two hc ha hb]
  have := andW_fit (p := a) (q := b) h
  unfold Aig.endW
  rw [if_neg (by simp [this])]
theorem Or_fit {g : Aig} {a b : Int} (hc : g.check = 0) (ha : g.lit a = true) (hb : g.lit b = true) (h : g.count < 65536) : (g.Or a b).2.2 = 0 := by
  unfold Aig.Or
  rw [checkL_two hc ha hb]
  have := andW_fit (p := turn a) (q := turn b) h
  unfold Aig.endW Aig.orW
  rw [if_neg (by simp [this])]
theorem andW_count {g : Aig} {p q : Int} (hf : Fine g) (hp : g.lit p = true) (hq : g.lit q = true) : (g.andW 0 p q).1.count ≤ g.count + 1 := by
  have h1 := (andW_ok (g := g) (e := 0) (p := p) (q := q) fun _ => ⟨hf, hp, hq⟩).2.1
  have h2 := andW_len g 0 p q
  unfold Aig.count
  rw [h1.ins, h1.flops]; omega
theorem Xor_fit {g : Aig} {a b : Int} (hs : Wf g) (hc : g.check = 0) (ha : g.lit a = true) (hb : g.lit b = true) (h : g.count + 2 < 65536) : (g.Xor a b).2.2 = 0 := by
  have hf := check_fine hs hc
  unfold Aig.Xor
  rw [checkL_two hc ha hb]
  have e1 := andW_fit (g := g) (p := a) (q := turn b) (by omega)
  have k1 := andW_ok (g := g) (e := 0) (p := a) (q := turn b) fun _ => ⟨hf, ha, turn_lit hb⟩
  have c1 := andW_count hf ha (turn_lit hb)
  have hl1 := k1.2.1.lit (turn_lit ha)
  have hl2 := k1.2.1.lit hb
  have hf1 := (k1.1 e1).1
  have e2 := andW_fit (g := (g.andW 0 a (turn b)).1) (p := turn a) (q := b) (by omega)
  have c2 := andW_count hf1 hl1 hl2
  have e3 := fun p q => andW_fit (g := ((g.andW 0 a (turn b)).1.andW 0 (turn a) b).1) (p := p) (q := q) (by omega)
  have hp : (g.pairs 0 a (turn b) (turn a) b).2.1 = 0 := by
    unfold Aig.pairs Aig.orW
    simp only [e1, e2]
    exact e3 _ _
  unfold Aig.endW
  rw [if_neg (by simp [hp])]
theorem wf_of {m : Aig} (hf : Fine m) : Wf m := hf.toWf
def moveL (to : List Int) (l : Int) : Int := if l % 2 = 0 then to.getD (l / 2).toNat 0 else turn (to.getD (l / 2).toNat 0)
def m0 (g : Aig) : Aig := ⟨g.ins, List.replicate g.flops.length ⟨0, false⟩, g.ands, []⟩
def to0 (g : Aig) : List Int := (List.range (1 + g.ins + g.flops.length).toNat).map fun n : Nat => 2 * (n : Int)
def mAnd (s : Aig × List Int) (x : Int × Int) : Aig × List Int := ((s.1.And (moveL s.2 x.1) (moveL s.2 x.2)).1, s.2 ++ [(s.1.And (moveL s.2 x.1) (moveL s.2 x.2)).2.1])
def mDiff (s : Aig × Int) (p : Int × Int) : Aig × Int := (((s.1.Xor p.1 p.2).1.Or s.2 (s.1.Xor p.1 p.2).2.1).1, ((s.1.Xor p.1 p.2).1.Or s.2 (s.1.Xor p.1 p.2).2.1).2.1)
def bodyM (g h : Aig) : Aig × List Int := h.ands.foldl mAnd (m0 g, to0 g)
def pairsM (g h : Aig) : List (Int × Int) := (lits g).zip ((lits h).map (moveL (bodyM g h).2))
def miterS (g h : Aig) : Aig × Int := (pairsM g h).foldl mDiff ((bodyM g h).1, 0)
def miterM (g h : Aig) : Aig := { (miterS g h).1 with outs := [(miterS g h).2] }
structure MI (g : Aig) (N : Nat) (m : Aig) : Prop where
  small : g.ins + g.flops.length ≤ 8
  check : m.check = 0
  fine : Fine m
  ext : Ext (m0 g) m
  len : m.ands.length ≤ N
theorem MI.count {g m : Aig} {N : Nat} (h : MI g N m) : m.count ≤ 8 + N := by
  have h1 := h.small
  have h2 := h.len
  unfold Aig.count
  rw [h.ext.ins, h.ext.flops]
  simp only [m0, List.length_replicate]; omega
theorem MI.first {g m : Aig} {N : Nat} (h : MI g N m) : m.first = g.first := by
  unfold Aig.first
  rw [h.ext.ins, h.ext.flops]; simp [m0]
theorem mi_and {g m : Aig} {N : Nat} (h : MI g N m) (hN : N ≤ 60000) {a b : Int} (ha : m.lit a = true) (hb : m.lit b = true) :
    (m.And a b).2.2 = 0 ∧ MI g (N + 1) (m.And a b).1 ∧ Ext m (m.And a b).1 ∧ (m.And a b).1.lit (m.And a b).2.1 = true := by
  have hc := h.count
  have e := And_fit h.check ha hb (by omega)
  obtain ⟨r1, r2, r3, r4, r5, _, _⟩ := (and_res (wf_of h.fine) a b).check (wf_of h.fine) e
  exact ⟨e, ⟨h.small, r1, r2, h.ext.trans r3, by have := h.len; omega⟩, r3, r4⟩
theorem mi_or {g m : Aig} {N : Nat} (h : MI g N m) (hN : N ≤ 60000) {a b : Int} (ha : m.lit a = true) (hb : m.lit b = true) :
    (m.Or a b).2.2 = 0 ∧ MI g (N + 1) (m.Or a b).1 ∧ Ext m (m.Or a b).1 ∧ (m.Or a b).1.lit (m.Or a b).2.1 = true := by
  have hc := h.count
  have e := Or_fit h.check ha hb (by omega)
  obtain ⟨r1, r2, r3, r4, r5, _, _⟩ := (or_res (wf_of h.fine) a b).check (wf_of h.fine) e
  exact ⟨e, ⟨h.small, r1, r2, h.ext.trans r3, by have := h.len; omega⟩, r3, r4⟩
theorem mi_xor {g m : Aig} {N : Nat} (h : MI g N m) (hN : N ≤ 60000) {a b : Int} (ha : m.lit a = true) (hb : m.lit b = true) :
    (m.Xor a b).2.2 = 0 ∧ MI g (N + 3) (m.Xor a b).1 ∧ Ext m (m.Xor a b).1 ∧ (m.Xor a b).1.lit (m.Xor a b).2.1 = true := by
  have hc := h.count
  have e := Xor_fit (wf_of h.fine) h.check ha hb (by omega)
  obtain ⟨r1, r2, r3, r4, r5, _, _⟩ := (xor_res (wf_of h.fine) a b).check (wf_of h.fine) e
  exact ⟨e, ⟨h.small, r1, r2, h.ext.trans r3, by have := h.len; omega⟩, r3, r4⟩
theorem m0_check {g : Aig} (hs : Wf g) (hc : g.check = 0) (h8 : g.ins + g.flops.length ≤ 8) : MI g g.ands.length (m0 g) := by
  have hf := check_fine hs hc
  have hsm := hf.toSmall
  have hlo := hsm.lo
  have hcn := hf.cnt
  have ec : (m0 g).count = g.count := by simp [Aig.count, m0]
  have ef : (m0 g).first = g.first := by simp [Aig.first, m0]
  have hwf : Wf (m0 g) := ⟨hs.ins, by simpa [m0] using hs.flops, hs.ands, by simp [m0], fun f hm => by
    have := List.eq_of_mem_replicate (show f ∈ List.replicate g.flops.length (⟨0, false⟩ : Flop) from hm)
    rw [this]; simp [I64], hs.gates, by simp [m0]⟩
  have hck : (m0 g).check = 0 := by
    unfold Aig.check
    have h1 : ¬ (m0 g).ins < 0 := by show ¬ g.ins < 0; omega
    have h2 : ¬ (65536 < (m0 g).ins ∨ 65536 < (m0 g).count ∨ 65536 < ((m0 g).outs.length : Int)) := by
      rw [ec]
      show ¬ (65536 < g.ins ∨ 65536 < g.count ∨ 65536 < (([] : List Int).length : Int))
      simp only [List.length_nil]; omega
    rw [if_neg h1, if_neg h2, if_pos]
    unfold Aig.good
    rw [ef]
    simp only [Bool.and_eq_true, Bool.not_eq_true', List.any_eq_false, Bool.not_eq_true, Bool.not_eq_false']
    refine ⟨⟨hf.gok, fun f hm => ?_⟩, fun a hm => by simp [m0] at hm⟩
    have := List.eq_of_mem_replicate (show f ∈ List.replicate g.flops.length (⟨0, false⟩ : Flop) from hm)
    rw [this]
    unfold Aig.lit
    rw [ec]
    have h0 : 0 ≤ g.count := by unfold Aig.count; omega
    have hl : Aig.litN (1 + g.count) 0 = true := litN_iff.2 (by omega)
    show ¬ Aig.litN (1 + g.count) 0 = false
    rw [hl]; simp
  exact ⟨h8, hck, check_fine hwf hck, .refl _, Nat.le_refl _⟩
abbrev at_ (m : Aig) (s : List Bool) (a : Int) : Bool := Aig.val (Aig.vals (false :: s) m.ands) a
structure Mov (g : Aig) (N : Nat) (m : Aig) (to : List Int) (s v : List Bool) : Prop where
  mi : MI g N m
  sl : ((s.length + 1 : Nat) : Int) = g.first
  len : to.length = v.length
  lit : ∀ t ∈ to, m.lit t = true
  val : ∀ i, i < to.length → at_ m s (to.getD i 0) = v.getD i false
theorem val_and {g m : Aig} {N : Nat} {s : List Bool} (h : MI g N m) (hs : ((s.length + 1 : Nat) : Int) = g.first) {a b : Int} (e : (m.And a b).2.2 = 0) : at_ (m.And a b).1 s (m.And a b).2.1 = (at_ m s a && at_ m s b) := by
  have hl := h.fine.lo
  have hf := h.first
  have := and_val (g := m) (a := a) (b := b) (inp := s.take m.ins.toNat) (st := s.drop m.ins.toNat) (wf_of h.fine) (by
    rw [List.length_take]; unfold Aig.first at hf hs; omega) (by rw [List.length_drop]; unfold Aig.first at hf hs; omega) e
  simpa [Aig.value] using this
theorem val_or {g m : Aig} {N : Nat} {s : List Bool} (h : MI g N m) (hs : ((s.length + 1 : Nat) : Int) = g.first) {a b : Int} (e : (m.Or a b).2.2 = 0) : at_ (m.Or a b).1 s (m.Or a b).2.1 = (at_ m s a || at_ m s b) := by
  have hl := h.fine.lo
  have hf := h.first
  have := or_val (g := m) (a := a) (b := b) (inp := s.take m.ins.toNat) (st := s.drop m.ins.toNat) (wf_of h.fine) (by
    rw [List.length_take]; unfold Aig.first at hf hs; omega) (by rw [List.length_drop]; unfold Aig.first at hf hs; omega) e
  simpa [Aig.value] using this
theorem val_xor {g m : Aig} {N : Nat} {s : List Bool} (h : MI g N m) (hs : ((s.length + 1 : Nat) : Int) = g.first) {a b : Int} (e : (m.Xor a b).2.2 = 0) : at_ (m.Xor a b).1 s (m.Xor a b).2.1 = (at_ m s a != at_ m s b) := by
  have hl := h.fine.lo
  have hf := h.first
  have := xor_val (g := m) (a := a) (b := b) (inp := s.take m.ins.toNat) (st := s.drop m.ins.toNat) (wf_of h.fine) (by
    rw [List.length_take]; unfold Aig.first at hf hs; omega) (by rw [List.length_drop]; unfold Aig.first at hf hs; omega) e
  simpa [Aig.value] using this
theorem at_ext {g m k : Aig} {N : Nat} {s : List Bool} (h : MI g N m) (hs : ((s.length + 1 : Nat) : Int) = g.first) (hx : Ext m k) {a : Int} (ha : m.lit a = true) : at_ k s a = at_ m s a :=
  val_ext h.fine (by rw [h.first]; exact hs) hx ha
theorem lit_pos {m : Aig} {a : Int} (h : m.lit a = true) : 0 ≤ a := (litN_iff.1 h).1
theorem mov_lit {g m : Aig} {N : Nat} {to : List Int} {s v : List Bool} (h : Mov g N m to s v) {l : Int} (h0 : 0 ≤ l) (h1 : (l / 2).toNat < to.length) : m.lit (moveL to l) = true ∧ at_ m s (moveL to l) = Aig.val v l := by
  have hl := h.lit _ (mem_getD h1)
  have hv := h.val _ h1
  unfold moveL Aig.val
  by_cases c : l % 2 = 0
  · rw [if_pos c]
    have : decide (l % 2 = 1) = false := by simp; omega
    rw [this, hv]
    exact ⟨hl, by simp⟩
  · rw [if_neg c]
    have : decide (l % 2 = 1) = true := by simp; omega
    rw [this]
    refine ⟨turn_lit hl, ?_⟩
    unfold at_ at hv ⊢
    rw [val_turn (lit_pos hl), hv]
    cases v.getD (l / 2).toNat false <;> rfl
theorem mov_and {g m : Aig} {N : Nat} {to : List Int} {s v : List Bool} (h : Mov g N m to s v) (hN : N ≤ 60000) {x : Int × Int} (h1 : 0 ≤ x.1 ∧ x.1 < 2 * to.length) (h2 : 0 ≤ x.2 ∧ x.2 < 2 * to.length) :
    Mov g (N + 1) (mAnd (m, to) x).1 (mAnd (m, to) x).2 s (v ++ [Aig.val v x.1 && Aig.val v x.2]) ∧ (m.And (moveL to x.1) (moveL to x.2)).2.2 = 0 ∧ m.lit (moveL to x.1) = true ∧ m.lit (moveL to x.2) = true := by
  obtain ⟨a1, a2⟩ := mov_lit h h1.1 (show (x.1 / 2).toNat < to.length by omega)
  obtain ⟨b1, b2⟩ := mov_lit h h2.1 (show (x.2 / 2).toNat < to.length by omega)
  obtain ⟨e, r1, r2, r3⟩ := mi_and h.mi hN a1 b1
  have hv := val_and h.mi h.sl e
  rw [a2, b2] at hv
  have hlen := h.len
  refine ⟨⟨r1, h.sl, by simp [mAnd, hlen], fun t ht => ?_, fun i hi => ?_⟩, e, a1, b1⟩
  · rcases List.mem_append.1 ht with q | q
    · exact r2.lit (h.lit t q)
    · simp at q; subst q; exact r3
  · simp only [mAnd, List.length_append, List.length_cons, List.length_nil] at hi ⊢
    simp only [List.getD_eq_getElem?_getD]
    by_cases c : i < to.length
    · rw [List.getElem?_append_left c, List.getElem?_append_left (by omega), ← List.getD_eq_getElem?_getD, ← List.getD_eq_getElem?_getD, at_ext h.mi h.sl r2 (h.lit _ (mem_getD c))]
      exact h.val i c
    · have e : i = to.length := by omega
      subst e
      rw [List.getElem?_append_right (by omega), List.getElem?_append_right (by omega)]
      simpa [hlen] using hv
theorem mov_ands {g : Aig} {s : List Bool} : ∀ (l : List (Int × Int)) (N : Nat) (p : Aig × List Int) (v : List Bool), Mov g N p.1 p.2 s v → N + l.length ≤ 60000 → Aig.gatesOk (p.2.length : Nat) l = true →
    Mov g (N + l.length) (l.foldl mAnd p).1 (l.foldl mAnd p).2 s (Aig.vals v l) ∧ (l.foldl mAnd p).2.length = p.2.length + l.length
  | [], N, p, v, h, _, _ => ⟨h, by simp⟩
  | x :: l, N, p, v, h, hc, hg => by
    simp only [Aig.gatesOk, Bool.and_eq_true, litN_iff] at hg
    obtain ⟨⟨g1, g2⟩, g3⟩ := hg
    simp only [List.length_cons] at hc
    have r := (mov_and h (by omega) g1 g2).1
    have hl : (mAnd p x).2.length = p.2.length + 1 := by simp [mAnd]
    have := mov_ands l (N + 1) (mAnd p x) _ r (by omega) (by rw [hl]; exact_mod_cast g3)
    rw [hl] at this
    simp only [List.foldl_cons, List.length_cons, Aig.vals]
    exact ⟨by have e : N + (l.length + 1) = N + 1 + l.length := by omega
              rw [e]; exact this.1, by omega⟩
theorem to0_ok {g : Aig} (hs : Wf g) (hc : g.check = 0) (h8 : g.ins + g.flops.length ≤ 8) {s : List Bool} (hsl : ((s.length + 1 : Nat) : Int) = g.first) : Mov g g.ands.length (m0 g) (to0 g) s (false :: s) := by
  have hm := m0_check hs hc h8
  have hf := check_fine hs hc
  have hlo := hf.lo
  have hlen : (to0 g).length = s.length + 1 := by unfold Aig.first at hsl; simp [to0]; omega
  have hat : ∀ i : Nat, i < s.length + 1 → at_ (m0 g) s (2 * (i : Int)) = (false :: s).getD i false := fun i hi => by
    obtain ⟨m, e⟩ := vals_prefix g.ands (false :: s)
    show Aig.val (Aig.vals (false :: s) g.ands) _ = _
    rw [e, val_app (by simp; omega)]
    unfold Aig.val
    have e1 : (2 * (i : Int) / 2).toNat = i := by omega
    have e2 : decide (2 * (i : Int) % 2 = 1) = false := by simp
    rw [e1, e2]; simp
  refine ⟨hm, hsl, by simp [hlen], fun t ht => ?_, fun i hi => ?_⟩
  · simp only [to0, List.mem_map, List.mem_range] at ht
    obtain ⟨i, hi, rfl⟩ := ht
    unfold Aig.lit
    rw [litN_iff]
    have : (m0 g).count = g.count := by simp [Aig.count, m0]
    rw [this]
    unfold Aig.count
    omega
  · have hi2 : i < (1 + g.ins + g.flops.length).toNat := by simpa [to0] using hi
    have : (to0 g).getD i 0 = 2 * (i : Int) := by
      simp [to0, List.getD_eq_getElem?_getD, hi2]
    rw [this]
    exact hat i (by omega)
end Fil.Eqv

namespace Fil.Eqv
open Abs
open Bd (D T3 In T lookT oneW fstT)
def outV (g : Aig) (s : List Bool) : List Bool := (lits g).map (at_ g s)
structure Ok (g : Aig) : Prop where
  wf : Wf g
  check : g.check = 0
  eight : g.ins + g.flops.length ≤ 8
  ands : g.ands.length ≤ 300
  outs : g.outs.length ≤ 20
theorem Ok.fine {g : Aig} (h : Ok g) : Fine g := check_fine h.wf h.check
theorem Ok.lo {g : Aig} (h : Ok g) : 0 ≤ g.ins := h.fine.lo
theorem Ok.good {g : Aig} (h : Ok g) : g.good = true := by
  have hc := h.check
  unfold Aig.check at hc
  split at hc
  · simp at hc
  · split at hc
    · simp at hc
    · split at hc
      · assumption
      · simp at hc
theorem Ok.lits {g : Aig} (h : Ok g) : ∀ a ∈ lits g, g.lit a = true := fun a ha => by
  have hg := h.good
  simp only [Aig.good, Bool.and_eq_true, Bool.not_eq_true', List.any_eq_false, Bool.not_eq_true, Bool.not_eq_false'] at hg
  rcases List.mem_append.1 ha with q | q
  · have := hg.2 a q; simpa using this
  · simp only [List.mem_map] at q
    obtain ⟨f, hf, rfl⟩ := q
    have := hg.1.2 f hf; simpa using this
theorem lits_len (g : Aig) : (lits g).length = g.outs.length + g.flops.length := by simp [lits]
theorem lit_at {g : Aig} {n : Nat} (h : ((n + 1 : Nat) : Int) = g.first) {a : Int} (ha : g.lit a = true) : 0 ≤ a ∧ a < 2 * ((n + 1 + g.ands.length : Nat) : Int) := by
  have := litN_iff.1 ha
  have := count_first g
  omega

/-! ### The diagrams -/
theorem body_rep {g : Aig} (h : Ok g) {w : List Bool} (hw : ((w.length : Nat) : Int) = g.ins + g.flops.length) : Rep w.length (w.length + 3 * g.ands.length) (bodyS g).1 (bodyS g).2 w (Aig.vals (false :: w) g.ands) ∧ (bodyS g).2.length = w.length + 1 + g.ands.length := by
  have e : (g.ins + g.flops.length).toNat = w.length := by omega
  have h8 : w.length ≤ 8 := by have := h.eight; omega
  have ha := h.ands
  obtain ⟨r1, r2⟩ := rep_vars h8 rfl w.length (Nat.le_refl _)
  have ht : (false :: w).take (w.length + 1) = false :: w := List.take_of_length_le (by simp)
  rw [ht] at r1
  have hg := (good_gates h.good)
  have hfst : g.first = ((w.length + 1 : Nat) : Int) := by unfold Aig.first; omega
  rw [hfst] at hg
  have := rep_ands g.ands w.length (stVars w.length w.length) (false :: w) r1 (by omega) (by rw [r2]; exact hg)
  unfold bodyS
  rw [e]
  rw [r2] at this
  exact this
theorem forks_rep {g : Aig} (h : Ok g) {w : List Bool} (hw : ((w.length : Nat) : Int) = g.ins + g.flops.length) : Rep w.length (w.length + 3 * g.ands.length + (lits g).length) (forksS g).1 (forksS g).2 w (outV g w) := by
  obtain ⟨b1, b2⟩ := body_rep h hw
  have h8 := h.eight
  have ha := h.ands
  have ho := h.outs
  have hl := lits_len g
  have hfst : ((w.length + 1 : Nat) : Int) = g.first := by unfold Aig.first; omega
  have hlo := h.lo
  have := rep_outs (n := w.length) (nodes := (bodyS g).2) (w := w) (v := Aig.vals (false :: w) g.ands) (lits g) (w.length + 3 * g.ands.length) (bodyS g).1 [] [] b1
    ⟨b1.good, rfl, rfl, by simp, by simp⟩ (by omega) fun a ha => by
      have := lit_at hfst (h.lits a ha)
      rw [b2]; omega
  have := this.1
  simpa [forksS, outV] using this

/-! ### The miter -/
theorem mov_diffs {g : Aig} {s : List Bool} (hs : ((s.length + 1 : Nat) : Int) = g.first) : ∀ (ps : List (Int × Int)) (N : Nat) (m : Aig) (l : Int), MI g N m → (∀ p ∈ ps, m.lit p.1 = true ∧ m.lit p.2 = true) → m.lit l = true → N + 4 * ps.length ≤ 60000 →
    MI g (N + 4 * ps.length) (ps.foldl mDiff (m, l)).1 ∧ Ext m (ps.foldl mDiff (m, l)).1 ∧ (ps.foldl mDiff (m, l)).1.lit (ps.foldl mDiff (m, l)).2 = true ∧
    at_ (ps.foldl mDiff (m, l)).1 s (ps.foldl mDiff (m, l)).2 = (at_ m s l || ps.any fun p => at_ m s p.1 != at_ m s p.2)
  | [], N, m, l, h, _, hl, _ => ⟨h, .refl m, hl, by simp⟩
  | p :: ps, N, m, l, h, hp, hl, hN => by
    simp only [List.length_cons] at hN
    obtain ⟨p1, p2⟩ := hp p (by simp)
    obtain ⟨x1, x2, x3, x4⟩ := mi_xor h (by omega) p1 p2
    obtain ⟨y1, y2, y3, y4⟩ := mi_or x2 (by omega) (x3.lit hl) x4
    have v1 := val_xor h hs x1
    have v2 := val_or x2 hs y1
    have hx := x3.trans y3
    obtain ⟨z1, z2, z3, z4⟩ := mov_diffs hs ps (N + 3 + 1) (mDiff (m, l) p).1 (mDiff (m, l) p).2 y2 (fun q hq => ⟨hx.lit (hp q (by simp [hq])).1, hx.lit (hp q (by simp [hq])).2⟩) y4 (by omega)
    simp only [List.foldl_cons, List.length_cons, List.any_cons]
    refine ⟨by have e : N + 4 * (ps.length + 1) = N + 3 + 1 + 4 * ps.length := by omega
               rw [e]; exact z1, hx.trans z2, z3, ?_⟩
    refine z4.trans ?_
    have e1 : at_ (mDiff (m, l) p).1 s (mDiff (m, l) p).2 = (at_ m s l || (at_ m s p.1 != at_ m s p.2)) := by
      refine v2.trans ?_
      rw [v1, at_ext h hs x3 hl]
    have e2 : (ps.any fun q => at_ (mDiff (m, l) p).1 s q.1 != at_ (mDiff (m, l) p).1 s q.2) = ps.any fun q => at_ m s q.1 != at_ m s q.2 := by
      rw [Bool.eq_iff_iff, List.any_eq_true, List.any_eq_true]
      constructor
      · rintro ⟨q, hq, h'⟩
        refine ⟨q, hq, ?_⟩
        have k1 := at_ext h hs hx (hp q (by simp [hq])).1
        have k2 := at_ext h hs hx (hp q (by simp [hq])).2
        have k1' : at_ (mDiff (m, l) p).1 s q.1 = at_ m s q.1 := k1
        have k2' : at_ (mDiff (m, l) p).1 s q.2 = at_ m s q.2 := k2
        rwa [k1', k2'] at h'
      · rintro ⟨q, hq, h'⟩
        refine ⟨q, hq, ?_⟩
        have k1 := at_ext h hs hx (hp q (by simp [hq])).1
        have k2 := at_ext h hs hx (hp q (by simp [hq])).2
        have k1' : at_ (mDiff (m, l) p).1 s q.1 = at_ m s q.1 := k1
        have k2' : at_ (mDiff (m, l) p).1 s q.2 = at_ m s q.2 := k2
        rwa [k1', k2']
    rw [e1, e2, Bool.or_assoc]
structure Two (g h : Aig) : Prop where
  gg : Ok g
  hh : Ok h
  ins : g.ins = h.ins
  flops : g.flops.length = h.flops.length
  outs : g.outs.length = h.outs.length
  few : g.ands.length + h.ands.length ≤ 100
theorem Two.pairs {g h : Aig} (t : Two g h) : (pairsM g h).length = g.outs.length + g.flops.length := by
  have := t.flops
  have := t.outs
  simp [pairsM, lits_len]; omega
theorem Two.first {g h : Aig} (t : Two g h) : h.first = g.first := by
  have := t.ins
  have := t.flops
  unfold Aig.first; omega
theorem bodyM_ok {g h : Aig} (t : Two g h) {s : List Bool} (hs : ((s.length + 1 : Nat) : Int) = g.first) :
    Mov g (g.ands.length + h.ands.length) (bodyM g h).1 (bodyM g h).2 s (Aig.vals (false :: s) h.ands) ∧ (bodyM g h).2.length = s.length + 1 + h.ands.length := by
  have k := to0_ok t.gg.wf t.gg.check t.gg.eight hs
  have hk : (to0 g).length = s.length + 1 := by rw [k.len]; simp
  have hg := good_gates t.hh.good
  rw [t.first, ← hs] at hg
  have hf := t.few
  have := mov_ands h.ands g.ands.length (m0 g, to0 g) (false :: s) k (by omega) (by rw [hk]; exact hg)
  rw [hk] at this
  exact this
theorem mem_zip_map {l m : List Int} {f : Int → Int} {p : Int × Int} (h : p ∈ l.zip (m.map f)) : p.1 ∈ l ∧ ∃ b ∈ m, p.2 = f b := by
  obtain ⟨x, y⟩ := p
  have h1 := (List.of_mem_zip h).1
  have h2 := (List.of_mem_zip h).2
  obtain ⟨b, hb, rfl⟩ := List.mem_map.1 h2
  exact ⟨h1, b, hb, rfl⟩
theorem m0_lit {g : Aig} {a : Int} (h : g.lit a = true) : (m0 g).lit a = true := by
  unfold Aig.lit at *
  have : (m0 g).count = g.count := by simp [Aig.count, m0]
  rwa [this]
theorem pairs_lit {g h : Aig} (t : Two g h) {s : List Bool} (hs : ((s.length + 1 : Nat) : Int) = g.first) : ∀ p ∈ pairsM g h, (bodyM g h).1.lit p.1 = true ∧ (bodyM g h).1.lit p.2 = true := fun p hp => by
  obtain ⟨b1, b2⟩ := bodyM_ok t hs
  obtain ⟨q1, b, q2, q3⟩ := mem_zip_map hp
  refine ⟨b1.mi.ext.lit (m0_lit (t.gg.lits _ q1)), ?_⟩
  rw [q3]
  have hb := lit_at (g := h) (n := s.length) (by rw [t.first]; exact hs) (t.hh.lits b q2)
  exact (mov_lit b1 hb.1 (by omega)).1
theorem any_zip {f1 f2 : Int → Bool} {tr : Int → Int} {k : Int → Bool} : ∀ (l m : List Int), l.length = m.length → (∀ b ∈ m, k (tr b) = f2 b) → (∀ a ∈ l, k a = f1 a) → ((l.zip (m.map tr)).any fun p => k p.1 != k p.2) = decide (l.map f1 ≠ m.map f2)
  | [], [], _, _, _ => by simp
  | a :: l, b :: m, hl, h2, h1 => by
    have ih := any_zip (f1 := f1) (f2 := f2) (tr := tr) (k := k) l m (by simpa using hl) (fun b hb => h2 b (by simp [hb])) fun a ha => h1 a (by simp [ha])
    simp only [List.map_cons, List.zip_cons_cons, List.any_cons, ih, h1 a (by simp), h2 b (by simp)]
    rw [Bool.eq_iff_iff]
    simp only [Bool.or_eq_true, decide_eq_true_eq, ne_eq, bne_iff_ne, List.cons.injEq, not_and]
    constructor
    · rintro (h | h) e
      · exact absurd e h
      · exact h
    · intro h
      by_cases e : f1 a = f2 b
      · exact .inr (h e)
      · exact .inl e
theorem miter_body {g h : Aig} (t : Two g h) {s : List Bool} (hs : ((s.length + 1 : Nat) : Int) = g.first) :
    MI g (g.ands.length + h.ands.length + 4 * (pairsM g h).length) (miterS g h).1 ∧ (miterS g h).1.lit (miterS g h).2 = true ∧ at_ (miterS g h).1 s (miterS g h).2 = decide (outV g s ≠ outV h s) := by
  obtain ⟨b1, b2⟩ := bodyM_ok t hs
  have hpl := t.pairs
  have hf := t.few
  have ho := t.gg.outs
  have h8 := t.gg.eight
  have hlo := t.gg.lo
  have h0 : (bodyM g h).1.lit 0 = true := litN_iff.2 (by
    have := b1.mi.fine.lo
    unfold Aig.count; omega)
  obtain ⟨d1, d2, d3, d4⟩ := mov_diffs hs (pairsM g h) (g.ands.length + h.ands.length) (bodyM g h).1 0 b1.mi (pairs_lit t hs) h0 (by omega)
  refine ⟨d1, d3, ?_⟩
  show at_ _ s _ = _
  unfold miterS
  rw [d4]
  have hz : at_ (bodyM g h).1 s 0 = false := val_zero
  rw [hz, Bool.false_or]
  refine any_zip (lits g) (lits h) (by simp [lits_len, t.outs, t.flops]) (fun b hb => ?_) fun a ha => ?_
  · have hb' := lit_at (g := h) (n := s.length) (by rw [t.first]; exact hs) (t.hh.lits b hb)
    exact (mov_lit b1 hb'.1 (by omega)).2
  · have hm := m0_check t.gg.wf t.gg.check t.gg.eight
    exact at_ext hm hs b1.mi.ext (m0_lit (t.gg.lits a ha))
theorem miter_ok {g h : Aig} (t : Two g h) : Ok (miterM g h) ∧ (miterM g h).ins = g.ins ∧ (miterM g h).flops = List.replicate g.flops.length ⟨0, false⟩ ∧ (miterM g h).outs = [(miterS g h).2] ∧
    (miterM g h).ands.length ≤ 100 + 4 * (g.outs.length + g.flops.length) ∧ ∀ s : List Bool, ((s.length + 1 : Nat) : Int) = g.first → at_ (miterM g h) s (miterS g h).2 = decide (outV g s ≠ outV h s) := by
  have hlo := t.gg.lo
  have h8 := t.gg.eight
  have ho := t.gg.outs
  have hf := t.few
  have hpl := t.pairs
  have hsl : (((List.replicate (g.ins + g.flops.length).toNat false).length + 1 : Nat) : Int) = g.first := by unfold Aig.first; simp; omega
  obtain ⟨m1, m2, _⟩ := miter_body t hsl
  have hl := m1.len
  have hins : (miterM g h).ins = g.ins := m1.ext.ins
  have hfl : (miterM g h).flops = List.replicate g.flops.length ⟨0, false⟩ := m1.ext.flops
  have hcn : (miterM g h).count = (miterS g h).1.count := rfl
  have hc := m1.count
  have hk := m1.check
  have hw := wf_of m1.fine
  have lit_I : ∀ {m : Aig} {a : Int}, m.count ≤ 70000 → m.lit a = true → I64 a := fun hm ha => by
    have := litN_iff.1 ha
    exact ⟨by omega, by omega⟩
  have hwf : Wf (miterM g h) := ⟨hw.ins, hw.flops, hw.ands, by simp [miterM], hw.nexts, hw.gates, fun a ha => by
    have : a = (miterS g h).2 := by simpa [miterM] using ha
    rw [this]; exact lit_I (by omega) m2⟩
  have hchk : (miterM g h).check = 0 := by
    unfold Aig.check at hk ⊢
    split at hk
    · simp at hk
    · split at hk
      · simp at hk
      · split at hk
        · rename_i q1 q2 q3
          have p1 : ¬ (miterM g h).ins < 0 := by rw [hins]; omega
          have p2 : ¬ (65536 < (miterM g h).ins ∨ 65536 < (miterM g h).count ∨ 65536 < ((miterM g h).outs.length : Int)) := by
            rw [hins, hcn]
            show ¬ (_ ∨ _ ∨ 65536 < (([(miterS g h).2] : List Int).length : Int))
            simp only [List.length_cons, List.length_nil]; omega
          rw [if_neg p1, if_neg p2, if_pos]
          simp only [Aig.good, Bool.and_eq_true] at q3 ⊢
          refine ⟨⟨q3.1.1, q3.1.2⟩, ?_⟩
          simp only [Bool.not_eq_true', List.any_eq_false, Bool.not_eq_true, Bool.not_eq_false']
          intro a ha
          have : a = (miterS g h).2 := by simpa [miterM] using ha
          rw [this]
          show ¬ (miterS g h).1.lit (miterS g h).2 = false
          rw [m2]; simp
        · simp at hk
  refine ⟨⟨hwf, hchk, ?_, ?_, ?_⟩, hins, hfl, rfl, ?_, fun s hs => ?_⟩
  · rw [hins, hfl, List.length_replicate]; omega
  · show (miterS g h).1.ands.length ≤ 300
    omega
  · show [(miterS g h).2].length ≤ 20
    simp
  · show (miterS g h).1.ands.length ≤ _
    omega
  · exact (miter_body t hs).2.2
end Fil.Eqv

namespace Fil.Eqv
open Abs
open Bd (D T3 In T lookT oneW fstT)
theorem one_spec {n c : Nat} {b : D} {x : Int} (h : Good n c b) (i : In n b.2 0 x) :
    (x = 0 ∧ oneW b x = ([], false, 0) ∧ ∀ w : List Bool, w.length = n → lookT (T b x) w = false) ∨
    (x ≠ 0 ∧ ∃ w, oneW b x = (w, true, 0) ∧ w.length = n ∧ lookT (T b x) w = true ∧ fstT n (T b x) = some w ∧ ∀ u : List Bool, u.length = n → lookT (T b x) u = true → u = w ∨ ∃ p a d, w = p ++ false :: a ∧ u = p ++ true :: d) := by
  have hv : b.1.toNat = n := by rw [h.vars]; simp
  have hf : Bd.Fine b.1 b.2 := by rw [h.vars]; exact h.fine
  have hi : In b.1 b.2 0 x := by rw [h.vars]; exact i
  by_cases hx : x = 0
  · left
    subst hx
    refine ⟨rfl, ?_, fun w hw => ?_⟩
    · unfold oneW
      rw [Bd.ask_ok hf (by simp [Bd.in_out hi]), if_neg (by simp), if_pos rfl]
    · have : T b 0 = List.replicate (2 ^ w.length) false := by rw [hw, ← hv]; exact Bd.tab_zero ..
      rw [this, look_0]
  · right
    obtain ⟨w, h1, h2, h3⟩ := Bd.oneW_ok hf hi hx
    rw [hv] at h2 h3
    obtain ⟨k1, k2, k3⟩ := Bd.fst_spec n _ w h3
    exact ⟨hx, w, h1, h2, k2, h3, k3⟩
def nodeS (g h : Aig) : D × Int := ((forksS (miterM g h)).1, (forksS (miterM g h)).2.getD 0 0)
theorem node_ok {g h : Aig} (t : Two g h) {w : List Bool} (hw : ((w.length : Nat) : Int) = g.ins + g.flops.length) :
    Good w.length 2000 (nodeS g h).1 ∧ In w.length (nodeS g h).1.2 0 (nodeS g h).2 ∧ lookT (T (nodeS g h).1 (nodeS g h).2) w = decide (outV g w ≠ outV h w) := by
  obtain ⟨m1, m2, m3, m4, m5, m6⟩ := miter_ok t
  have hw' : ((w.length : Nat) : Int) = (miterM g h).ins + (miterM g h).flops.length := by rw [m2, m3, List.length_replicate]; exact hw
  have r := forks_rep m1 hw'
  have hl : 0 < (forksS (miterM g h)).2.length := by
    rw [r.len]
    simp [outV, lits, m4]
  have h8 := t.gg.eight
  have ho := t.gg.outs
  have hll : (lits (miterM g h)).length ≤ 9 := by
    rw [lits_len, m4, m3, List.length_replicate, List.length_singleton]
    have := t.gg.lo
    omega
  have hlo := t.gg.lo
  refine ⟨r.good.mono (by omega), r.inn _ (mem_getD hl), ?_⟩
  have := r.val 0 hl
  have hs : ((w.length + 1 : Nat) : Int) = g.first := by unfold Aig.first; omega
  have e : (outV (miterM g h) w).getD 0 false = at_ (miterM g h) w (miterS g h).2 := by
    simp [outV, lits, m4]
  rw [e, m6 w hs] at this
  exact this
def sameS (g h : Aig) : Bool × List Bool × List Bool :=
  if (nodeS g h).2 = 0 then (true, [], []) else (false, (oneW (nodeS g h).1 (nodeS g h).2).1.take g.ins.toNat, (oneW (nodeS g h).1 (nodeS g h).2).1.drop g.ins.toNat)
theorem zeros {n : Nat} : (List.replicate n false).length = n := by simp
theorem same_yes {g h : Aig} (t : Two g h) (hy : (nodeS g h).2 = 0) : oneW (nodeS g h).1 (nodeS g h).2 = ([], false, 0) ∧ ∀ w : List Bool, ((w.length : Nat) : Int) = g.ins + g.flops.length → outV g w = outV h w := by
  have hlo := t.gg.lo
  constructor
  · obtain ⟨k1, k2, k3⟩ := node_ok t (w := List.replicate (g.ins + g.flops.length).toNat false) (by rw [zeros]; omega)
    rcases one_spec k1 k2 with ⟨_, h2, _⟩ | ⟨h1, _⟩
    · exact h2
    · exact absurd hy h1
  · intro w hw
    obtain ⟨k1, k2, k3⟩ := node_ok t hw
    rcases one_spec k1 k2 with ⟨_, _, h2⟩ | ⟨h1, _⟩
    · rw [h2 w rfl] at k3
      simpa using k3.symm
    · exact absurd hy h1
theorem same_no {g h : Aig} (t : Two g h) (hy : (nodeS g h).2 ≠ 0) : ∃ w : List Bool, oneW (nodeS g h).1 (nodeS g h).2 = (w, true, 0) ∧ ((w.length : Nat) : Int) = g.ins + g.flops.length ∧ outV g w ≠ outV h w ∧
    (∀ u : List Bool, u.length = w.length → outV g u ≠ outV h u → u = w ∨ ∃ p a d, w = p ++ false :: a ∧ u = p ++ true :: d) ∧ fstT w.length (T (nodeS g h).1 (nodeS g h).2) = some w := by
  have hlo := t.gg.lo
  obtain ⟨k1, k2, _⟩ := node_ok t (w := List.replicate (g.ins + g.flops.length).toNat false) (by rw [zeros]; omega)
  rcases one_spec k1 k2 with ⟨h1, _⟩ | ⟨_, w, h1, h2, h3, h4, h5⟩
  · exact absurd h1 hy
  · rw [zeros] at h2
    have hw : ((w.length : Nat) : Int) = g.ins + g.flops.length := by omega
    have kw := (node_ok t hw).2.2
    rw [h3] at kw
    refine ⟨w, h1, hw, by simpa using kw, fun u hu hd => ?_, by rw [h2]; rw [zeros] at h4; exact h4⟩
    have ku := (node_ok t (w := u) (by rw [hu]; exact hw)).2.2
    refine h5 u (by rw [zeros]; omega) ?_
    rw [ku]; simpa using hd
theorem Two.symm {g h : Aig} (t : Two g h) : Two h g := ⟨t.hh, t.gg, t.ins.symm, t.flops.symm, t.outs.symm, by have := t.few; omega⟩
end Fil.Eqv

namespace Go.Proofs.Ytjichkelfhcbcaa
open Abs Fil
theorem sl_growInt (n : Int) (σ : Sig) (h0 : 0 < n) (hb1 : n * 8 ≤ 35184372088832) (hn2 : n ≤ 1000000000000) :
    ACalls Try.prog 82 [.slice [] .nil, .int .i64 n] σ (fun r σ' => ∃ o, σ o = none ∧ r = .ret (.slice [] (.own o)) ∧ σ' = upd σ o (.grow 1 0)) :=
  lib_grow (sz := 1) (bytes := 8) mixed Try.func82 b82 n82 rfl q82 n h0 (by simpa using hb1) hn2
theorem sl_growInt0 (σ : Sig) : ACalls Try.prog 82 [.slice [] .nil, .int .i64 0] σ (fun r σ' => r = .ret (.slice [] .nil) ∧ σ' = σ) :=
  lib_grow0 (sz := 1) (bytes := 8) mixed Try.func82 b82 n82 rfl q82
theorem sl_growFlop (n : Int) (σ : Sig) (h0 : 0 < n) (hb1 : n * 16 ≤ 35184372088832) (hn2 : n ≤ 1000000000000) :
    ACalls Try.prog 118 [.slice [] .nil, .int .i64 n] σ (fun r σ' => ∃ o, σ o = none ∧ r = .ret (.slice [] (.own o)) ∧ σ' = upd σ o (.grow 2 0)) :=
  lib_grow (sz := 2) (bytes := 16) mixed Try.func118 b118 n118 rfl q118 n h0 (by simpa using hb1) hn2
theorem sl_growFlop0 (σ : Sig) : ACalls Try.prog 118 [.slice [] .nil, .int .i64 0] σ (fun r σ' => r = .ret (.slice [] .nil) ∧ σ' = σ) :=
  lib_grow0 (sz := 2) (bytes := 16) mixed Try.func118 b118 n118 rfl q118
theorem no_list {P : Program} {f : FuncId} {args : List AV} {σ : Sig} {l : List AV} {sz n : Nat} (h : ACalls P f args σ (fun r σ' => (l = [] ∧ r = .ret (.slice [] .nil) ∧ σ' = σ) ∨ NewO σ (fun o => .slice l (.own o)) (.grow sz n) r σ')) :
    ACalls P f args σ (fun r σ' => r = .ret (.slice l .no) ∧ σ' = σ) := by
  refine h.view fun r s h => ?_
  rcases h with ⟨rfl, rfl, rfl⟩ | ⟨o, ho, rfl, rfl⟩
  · exact ⟨_, .slice [] .no, _, rfl, vr_of (by simp only [go_sem]) (by simp only [go_sem]), rfl, rfl⟩
  · exact ⟨_, .slice l .no, _, rfl, vr_of (by simp only [go_sem]) (by simp only [go_sem, ho, implies_true, ne_eq, not_true_eq_false, reduceCtorEq, not_false_eq_true]), rfl, rfl⟩
theorem sl_concatInt (ls : List (List Int)) (σ : Sig) (hlen : ls.length ≤ 1000000) (htot : ls.flatten.length ≤ 1000000000) :
    ACalls Try.prog 52 [.slice (ls.map (encRow encInt)) .no] σ (fun r σ' => r = .ret (.slice (ls.flatten.map encInt) .no) ∧ σ' = σ) := by
  refine no_list (sz := 1) (n := ls.flatten.length) ?_
  refine (lib_concat (sz := 1) (bytes := 8) mixed Try.func52 b52 n52 rfl q52 (fun _ => rfl) (fun σ n h1 h2 h3 => sl_growInt n σ h1 (by simpa using h2) h3) sl_growInt0 ls hlen htot (by decide)).mono fun r s h => ?_
  rcases h with ⟨h1, h2, h3⟩ | h
  · exact .inl ⟨by rw [h1]; rfl, h2, h3⟩
  · exact .inr h
theorem sl_concatFlop (ls : List (List Flop)) (σ : Sig) (hlen : ls.length ≤ 1000000) (htot : ls.flatten.length ≤ 1000000000) :
    ACalls Try.prog 97 [.slice (ls.map (encRow encFlop)) .no] σ (fun r σ' => r = .ret (.slice (ls.flatten.map encFlop) .no) ∧ σ' = σ) := by
  refine no_list (sz := 2) (n := ls.flatten.length) ?_
  refine (lib_concat (sz := 2) (bytes := 16) mixed Try.func97 b97 n97 rfl q97 (fun _ => rfl) (fun σ n h1 h2 h3 => sl_growFlop n σ h1 (by simpa using h2) h3) sl_growFlop0 ls hlen htot (by decide)).mono fun r s h => ?_
  rcases h with ⟨h1, h2, h3⟩ | h
  · exact .inl ⟨by rw [h1]; rfl, h2, h3⟩
  · exact .inr h
theorem sl_concat2 (a b : List Int) (σ : Sig) (h : a.length + b.length ≤ 1000000000) :
    ACalls Try.prog 52 [.slice [.slice (a.map encInt) .no, .slice (b.map encInt) .no] .no] σ (fun r σ' => r = .ret (.slice ((a ++ b).map encInt) .no) ∧ σ' = σ) := by
  have := sl_concatInt [a, b] σ (by simp) (by simpa using h)
  rw [show [a, b].flatten = a ++ b by simp] at this
  exact this
theorem sl_concatF1 (a : List Flop) (σ : Sig) (h : a.length ≤ 1000000000) :
    ACalls Try.prog 97 [.slice [.slice (a.map encFlop) .no] .no] σ (fun r σ' => r = .ret (.slice (a.map encFlop) .no) ∧ σ' = σ) := by
  have := sl_concatFlop [a] σ (by simp) (by simpa using h)
  rw [show [a].flatten = a by simp] at this
  exact this
theorem sl_cloneGate (l : List (Int × Int)) (σ : Sig) (h : l.length ≤ 1000000) :
    ACalls Try.prog 48 [.slice (l.map encGate) .no] σ (fun r σ' => r = .ret (.slice (l.map encGate) .no) ∧ σ' = σ) := by
  refine calls_x mixed Try.func48 b48 n48 rfl q48 (by simp) ?_; unfold c48 r48
  cases l with
  | nil =>
    repeat' (first | simp (maxDischargeDepth := 9) -implicitDefEqProofs -dsimp only [go_sem, seval, List.map_nil, *] | ((with_reducible refine Zv ?_ ?_); focus (first | omega | exact rfl)) | ((with_reducible refine Zt (fun oF hoF hnF hnF' => ?_)); (try simp only [upd_none, ne_eq, not_and] at hoF)))
    refine ⟨?_, ?_⟩
    · refine fin_eq ?_
      (repeat' (first | simp (maxDischargeDepth := 9) -implicitDefEqProofs -dsimp only [go_sem, seval, List.map_nil, *])) <;> (repeat' refine And.intro ?_ ?_) <;> (first | omega | rfl | assumption | skip)
    · refine fin_eq ?_
      (repeat' (first | simp (maxDischargeDepth := 9) -implicitDefEqProofs -dsimp only [go_sem, seval, List.map_nil, *])) <;> (repeat' refine And.intro ?_ ?_) <;> (first | omega | rfl | assumption | skip)
  | cons x l =>
    have h' : l.length ≤ 999999 := by simp only [List.length_cons] at h; omega
    repeat' (first | simp (maxDischargeDepth := 9) -implicitDefEqProofs -dsimp only [go_sem, seval, List.map_cons, *] | ((with_reducible refine Zv ?_ ?_); focus (first | omega | exact rfl)) | ((with_reducible refine Zt (fun oF hoF hnF hnF' => ?_)); (try simp only [upd_none, ne_eq, not_and] at hoF)))
    all_goals first | (exfalso; simp at hq; done) | skip
    refine fin_eq ?_
    (repeat' (first | simp (maxDischargeDepth := 9) -implicitDefEqProofs -dsimp only [go_sem, seval, List.map_cons, List.nil_append, *])) <;> (repeat' refine And.intro ?_ ?_) <;> (first | omega | rfl | assumption | skip)
theorem eq_next1 (f : Flop) (σ : Sig) : ACalls Try.prog 75 [encFlop f] σ (fun r σ' => r = .ret (.int .i64 f.next) ∧ σ' = σ) := by
  refine calls_x mixed Try.func75 b75 n75 rfl q75 (by simp) ?_; unfold c75 r75
  repeat' (first | simp (maxDischargeDepth := 9) -implicitDefEqProofs -dsimp only [go_sem, seval, *])
  refine fin_eq ?_
  (repeat' (first | simp (maxDischargeDepth := 9) -implicitDefEqProofs -dsimp only [go_sem, seval, *])) <;> (repeat' refine And.intro ?_ ?_) <;> (first | omega | rfl | assumption | skip)
theorem eq_eachF (l : List Flop) (σ : Sig) (h : l.length ≤ 1000000) :
    ACalls Try.prog 74 [.fn 75 [] [], .slice [.slice (l.map encFlop) .no] .no] σ (fun r σ' => r = .ret (.slice ((l.map (·.next)).map encInt) .no) ∧ σ' = σ) := by
  refine ACalls.virt (callable_of Try.func74 b74 n74) 1 (fun oV1 hoV1 hnV1 hnV1' => ?_); (try simp only [upd_none, ne_eq, not_and] at hoV1); refine calls_x mixed Try.func74 b74 n74 rfl q74 (by simp) ?_; unfold c74 r74
  repeat' (first | simp (maxDischargeDepth := 9) -implicitDefEqProofs -dsimp only [go_sem, seval, *] | simp (disch := omega) only [wrap64] | ((with_reducible refine Zv ?_ ?_); focus (first | omega | exact rfl)) | ((with_reducible refine Zu ?_ ?_); focus omega) | ((with_reducible refine Zt (fun oF hoF hnF hnF' => ?_)); (try simp only [upd_none, ne_eq, not_and] at hoF)) | ((with_reducible apply ACalls.one1); (focus ((first | with_reducible refine sl_concatF1 l _ ?_) <;> (first | (simp (maxDischargeDepth := 9) -implicitDefEqProofs -dsimp only [go_sem, seval, *]; done) | omega))); (focus (first | trivial | with_reducible exact rfl | (simp (maxDischargeDepth := 9) -implicitDefEqProofs -dsimp only [go_sem, seval]; done)))))
  refine loop_rule (fun i : Nat => [(10, some (.int .i64 i)), (9, some (.int .i64 l.length)), (8, some (.slice (l.map encFlop) .no)), (4, some (.slice (((l.map (·.next)).take i).map encInt) (.own oV1))), (0, some (.fn 75 [] []))])
    (fun i => upd σ oV1 (.grow 1 i)) (fun i => i ≤ l.length) (fun i => l.length - i) 0 ?_ ?_
  · (repeat' (first | simp (maxDischargeDepth := 9) -implicitDefEqProofs -dsimp only [go_sem, seval, *] | simp (disch := omega) only [wrap64])) <;> (repeat' refine And.intro ?_ ?_) <;> (first | omega | rfl | assumption | skip)
  · intro i hi
    by_cases hlt : i < l.length
    · have hs := take_succ (l := l.map (·.next)) (i := i) (by simpa using hlt)
      have hlen : ((l.map (·.next)).take i).length = i := by simp; omega
      repeat' (first | simp (maxDischargeDepth := 9) -implicitDefEqProofs -dsimp only [go_sem, seval, List.nil_append, List.append_nil, List.getElem_map, *] | simp (disch := omega) only [wrap64] | ((with_reducible refine Zv ?_ ?_); focus (first | omega | exact rfl)) | ((with_reducible refine Zu ?_ ?_); focus omega) | ((with_reducible refine Zt (fun oF hoF hnF hnF' => ?_)); (try simp only [upd_none, ne_eq, not_and] at hoF)) | ((with_reducible apply ACalls.one1); (focus ((first | with_reducible refine eq_next1 l[i] _) <;> (first | (simp (maxDischargeDepth := 9) -implicitDefEqProofs -dsimp only [go_sem, seval, *]; done) | omega))); (focus (first | trivial | with_reducible exact rfl | (simp (maxDischargeDepth := 9) -implicitDefEqProofs -dsimp only [go_sem, seval]; done)))))
      refine loop_next _ _ _ _ (i + 1) ?_; (repeat' (first | simp (maxDischargeDepth := 9) -implicitDefEqProofs -dsimp only [go_sem, seval,  List.map_append, List.map_cons, List.map_nil, List.getElem_map, *] | simp (disch := omega) only [wrap64])) <;> (repeat' refine And.intro ?_ ?_) <;> (first | omega | rfl | assumption | skip)
    · have e0 : (l.map (·.next)).take i = l.map (·.next) := List.take_of_length_le (by simp; omega)
      repeat' (first | simp (maxDischargeDepth := 9) -implicitDefEqProofs -dsimp only [go_sem, seval, *] | simp (disch := omega) only [wrap64] | ((with_reducible refine Zv ?_ ?_); focus (first | omega | exact rfl)) | ((with_reducible refine Zu ?_ ?_); focus omega) | ((with_reducible refine Zt (fun oF hoF hnF hnF' => ?_)); (try simp only [upd_none, ne_eq, not_and] at hoF)))
      refine fin_eq ?_
      (repeat' (first | simp (maxDischargeDepth := 9) -implicitDefEqProofs -dsimp only [go_sem, seval, *] | simp (disch := omega) only [wrap64])) <;> (repeat' refine And.intro ?_ ?_) <;> (first | omega | rfl | assumption | skip)
theorem eq_nexts (g : Aig) (σ : Sig) (h : g.flops.length ≤ 1000000) : ACalls Try.prog 42 [encAig g] σ (fun r σ' => r = .ret (.slice ((g.flops.map (·.next)).map encInt) .no) ∧ σ' = σ) := by
  refine calls_x mixed Try.func42 b42 n42 rfl q42 (by simp) ?_; unfold c42 r42
  repeat' (first | simp (maxDischargeDepth := 9) -implicitDefEqProofs -dsimp only [go_sem, seval, *] | ((with_reducible apply ACalls.one1); (focus ((first | with_reducible refine eq_eachF g.flops _ h | with_reducible refine ACalls.flA (eq_eachF g.flops _ h) ?_) <;> (first | (simp (maxDischargeDepth := 9) -implicitDefEqProofs -dsimp only [go_sem, seval, *]; done) | omega))); (focus (first | trivial | with_reducible exact rfl | (simp (maxDischargeDepth := 9) -implicitDefEqProofs -dsimp only [go_sem, seval]; done)))))
  refine fin_eq ?_
  (repeat' (first | simp (maxDischargeDepth := 9) -implicitDefEqProofs -dsimp only [go_sem, seval, *])) <;> (repeat' refine And.intro ?_ ?_) <;> (first | omega | rfl | assumption | skip)
end Go.Proofs.Ytjichkelfhcbcaa

namespace Go.Proofs.Ytjichkelfhcbcaa
open Abs Fil Fil.Eqv
open Bd (D encB encF)
abbrev makC (b : D) (nodes : List Int) (k : Tok) : AObj := .cells [.int .i64 b.1, .slice (b.2.map encF) .no, .slice (nodes.map encInt) k, .int .i64 0]
theorem upd_self {σ : Sig} {o : Nat} {x : AObj} (h : σ o = some x) : upd σ o x = σ := by
  funext i
  simp only [upd]
  split
  · rename_i e; subst e; exact h.symm
  · rfl
theorem eq_lit1 (o p m : Nat) (b : D) (nodes : List Int) (k : Tok) (f : Int) (σ : Sig) (h1 : σ o = some (.cells [.ptr m 0])) (h2 : σ p = some (.cells [.int .i64 f])) (h3 : σ m = some (makC b nodes k))
    (hl : b.2.length ≤ 9223372036854775807) (hr : Bd.Fine b.1 b.2 → b.2.length + 2 ^ (b.1.toNat + 1) ≤ 65537) {c : D} {x : Int} (hc : Bd.notW b f = (c, x, 0)) :
    ACalls Try.prog 70 [.ptr o 0, .ptr p 0] σ (fun r σ' => r = .ret (.tup [encB c.1 c.2, .int .i64 x, .int .i64 0]) ∧ σ' = σ) := by
  refine calls_x mixed Try.func70 b70 n70 rfl q70 (by simp) ?_; unfold c70 r70
  have hn := fun τ => B.bdd_Not b f τ hl hr
  rw [hc] at hn
  repeat' (first | simp (maxDischargeDepth := 9) -implicitDefEqProofs -dsimp only [go_sem, seval, *] | ((with_reducible refine Zt (fun oF hoF hnF hnF' => ?_)); (try simp only [upd_none, ne_eq, not_and] at hoF)) | ((with_reducible apply id_one0); (focus (intro tS hS; ((first | with_reducible refine hn _) <;> (first | (simp (maxDischargeDepth := 9) -implicitDefEqProofs -dsimp only [go_sem, seval, *]; done) | omega | ((with_reducible refine Sub.get hS ?_); simp (maxDischargeDepth := 9) -implicitDefEqProofs -dsimp only [go_sem, seval, *]; done))))); (focus (first | trivial | (simp (maxDischargeDepth := 9) -implicitDefEqProofs -dsimp only [go_sem, seval, *]; done)))))
  refine fin_eq ?_
  (repeat' (first | simp (maxDischargeDepth := 9) -implicitDefEqProofs -dsimp only [go_sem, seval, *])) <;> (repeat' refine And.intro ?_ ?_) <;> (first | omega | rfl | assumption | skip)
theorem eq_put (m : Nat) (k : Nat) (caps : List AV) (b c : D) (nodes : List Int) (t : Tok) (x : Int) (σ : Sig) (h : σ m = some (makC b nodes t))
    (hc : ACalls Try.prog k caps σ (fun r σ' => r = .ret (.tup [encB c.1 c.2, .int .i64 x, .int .i64 0]) ∧ σ' = σ)) :
    ACalls Try.prog 35 [.ptr m 0, .fn k [] caps] σ (fun r σ' => r = .ret (.int .i64 x) ∧ σ' = upd σ m (makC c nodes t)) := by
  refine calls_x mixed Try.func35 b35 n35 rfl q35 (by simp) ?_; unfold c35 r35
  have ez : ((0 : Int) != 0) = false := by decide
  repeat' (first | simp (maxDischargeDepth := 9) -implicitDefEqProofs -dsimp only [go_sem, seval, List.nil_append, *] | ((with_reducible refine Zt (fun oF hoF hnF hnF' => ?_)); (try simp only [upd_none, ne_eq, not_and] at hoF)) | ((with_reducible apply ACalls.one1); (focus ((first | with_reducible refine hc) <;> (first | (simp (maxDischargeDepth := 9) -implicitDefEqProofs -dsimp only [go_sem, seval, *]; done) | omega))); (focus (first | trivial | with_reducible exact rfl | (simp (maxDischargeDepth := 9) -implicitDefEqProofs -dsimp only [go_sem, seval]; done)))))
  refine fin_eq ?_
  (repeat' (first | simp (maxDischargeDepth := 9) -implicitDefEqProofs -dsimp only [go_sem, seval, *])) <;> (repeat' refine And.intro ?_ ?_) <;> (first | omega | rfl | assumption | skip)
theorem eq_lit (m : Nat) (b : D) (nodes : List Int) (t : Tok) (l : Int) (σ : Sig) (h : σ m = some (makC b nodes t)) (h0 : 0 ≤ l) (h1 : (l / 2).toNat < nodes.length) (hl64 : l ≤ 4611686018427387904)
    (hl : b.2.length ≤ 9223372036854775807) (hr : Bd.Fine b.1 b.2 → b.2.length + 2 ^ (b.1.toNat + 1) ≤ 65537) (hok : l % 2 ≠ 0 → Bd.notW b (nodes.getD (l / 2).toNat 0) = ((litM b nodes l).1, (litM b nodes l).2, 0)) :
    ACalls Try.prog 38 [.ptr m 0, .int .i64 l] σ (fun r σ' => r = .ret (.int .i64 (litM b nodes l).2) ∧ σ' = upd σ m (makC (litM b nodes l).1 nodes t)) := by
  refine calls_x mixed Try.func38 b38 n38 rfl q38 (by simp) ?_; unfold c38 r38
  have hg : nodes[(l / 2).toNat] = nodes.getD (l / 2).toNat 0 := by simp [List.getD_eq_getElem?_getD, h1]
  obtain ⟨f, hf⟩ : ∃ f, nodes.getD (l / 2).toNat 0 = f := ⟨_, rfl⟩
  rw [hf] at hg
  by_cases c : l % 2 = 0
  · have hw : litM b nodes l = (b, f) := by unfold litM; rw [if_pos c, hf]
    rw [hw]
    rw [upd_self h]
    clear hok hw
    repeat' (first | simp (maxDischargeDepth := 9) -implicitDefEqProofs -dsimp only [go_sem, seval, *] | simp (disch := omega) only [and1, shr1'] | ((with_reducible refine Zv ?_ ?_); focus (first | omega | exact rfl)) | ((with_reducible refine Zu ?_ ?_); focus omega) | ((with_reducible refine Zt (fun oF hoF hnF hnF' => ?_)); (try simp only [upd_none, ne_eq, not_and] at hoF)))
    refine fin_eq ?_
    (repeat' (first | simp (maxDischargeDepth := 9) -implicitDefEqProofs -dsimp only [go_sem, seval, *] | simp (disch := omega) only [and1, shr1'])) <;> (repeat' refine And.intro ?_ ?_) <;> (first | omega | rfl | assumption | skip)
  · have c1 : l % 2 = 1 := by omega
    have ho := hok c
    rw [hf] at ho
    obtain ⟨⟨d, x⟩, hd⟩ : ∃ p, litM b nodes l = p := ⟨_, rfl⟩
    rw [hd] at ho ⊢
    clear hok hd
    repeat' (first | simp (maxDischargeDepth := 9) -implicitDefEqProofs -dsimp only [go_sem, seval, *] | simp (disch := omega) only [and1, shr1'] | ((with_reducible refine Zv ?_ ?_); focus (first | omega | exact rfl)) | ((with_reducible refine Zu ?_ ?_); focus omega) | ((with_reducible refine Zt (fun oF hoF hnF hnF' => ?_)); (try simp only [upd_none, ne_eq, not_and] at hoF)))
    rename_i oA hA nA nA'
    repeat' (first | simp (maxDischargeDepth := 9) -implicitDefEqProofs -dsimp only [go_sem, seval, *] | simp (disch := omega) only [and1, shr1'] | ((with_reducible refine Zv ?_ ?_); focus (first | omega | exact rfl)) | ((with_reducible refine Zu ?_ ?_); focus omega) | ((with_reducible refine Zt (fun oF hoF hnF hnF' => ?_)); (try simp only [upd_none, ne_eq, not_and] at hoF)) | ((with_reducible apply ACalls.one1); (focus ((first | with_reducible refine eq_put m 70 [.ptr oA 0, .ptr oF 0] b d nodes t x _ ?_ (eq_lit1 oA oF m b nodes t f _ ?_ ?_ ?_ hl hr ho)) <;> (first | (simp (maxDischargeDepth := 9) -implicitDefEqProofs -dsimp only [go_sem, seval, *]; done) | omega))); (focus (first | trivial | with_reducible exact rfl | (simp (maxDischargeDepth := 9) -implicitDefEqProofs -dsimp only [go_sem, seval]; done)))))
    refine fin_eq ?_
    (repeat' (first | simp (maxDischargeDepth := 9) -implicitDefEqProofs -dsimp only [go_sem, seval, *] | simp (disch := omega) only [and1, shr1'])) <;> (repeat' refine And.intro ?_ ?_) <;> (first | omega | rfl | assumption | skip)
theorem eq_var1 (o p m : Nat) (b : D) (nodes : List Int) (k : Tok) (i : Int) (σ : Sig) (h1 : σ o = some (.cells [.ptr m 0])) (h2 : σ p = some (.cells [.int .i64 i])) (h3 : σ m = some (makC b nodes k))
    (hl : b.2.length ≤ 9223372036854775807) (hr : Bd.Fine b.1 b.2 → b.2.length < 65536) {c : D} {x : Int} (hc : Bd.varW b i = (c, x, 0)) :
    ACalls Try.prog 36 [.ptr o 0, .ptr p 0] σ (fun r σ' => r = .ret (.tup [encB c.1 c.2, .int .i64 x, .int .i64 0]) ∧ σ' = σ) := by
  refine calls_x mixed Try.func36 b36 n36 rfl q36 (by simp) ?_; unfold c36 r36
  have hn := fun τ => B.bdd_Var b i τ hl hr
  rw [hc] at hn
  repeat' (first | simp (maxDischargeDepth := 9) -implicitDefEqProofs -dsimp only [go_sem, seval, *] | ((with_reducible refine Zt (fun oF hoF hnF hnF' => ?_)); (try simp only [upd_none, ne_eq, not_and] at hoF)) | ((with_reducible apply id_one0); (focus (intro tS hS; ((first | with_reducible refine hn _) <;> (first | (simp (maxDischargeDepth := 9) -implicitDefEqProofs -dsimp only [go_sem, seval, *]; done) | omega | ((with_reducible refine Sub.get hS ?_); simp (maxDischargeDepth := 9) -implicitDefEqProofs -dsimp only [go_sem, seval, *]; done))))); (focus (first | trivial | (simp (maxDischargeDepth := 9) -implicitDefEqProofs -dsimp only [go_sem, seval, *]; done)))))
  refine fin_eq ?_
  (repeat' (first | simp (maxDischargeDepth := 9) -implicitDefEqProofs -dsimp only [go_sem, seval, *])) <;> (repeat' refine And.intro ?_ ?_) <;> (first | omega | rfl | assumption | skip)
theorem eq_ite1 (o p q m : Nat) (b : D) (nodes : List Int) (k : Tok) (f g : Int) (σ : Sig) (h1 : σ o = some (.cells [.ptr m 0])) (h2 : σ p = some (.cells [.int .i64 f])) (h2' : σ q = some (.cells [.int .i64 g])) (h3 : σ m = some (makC b nodes k))
    (hl : b.2.length ≤ 9223372036854775807) (hr : Bd.Fine b.1 b.2 → b.2.length + 2 ^ (b.1.toNat + 1) ≤ 65537) {c : D} {x : Int} (hc : Bd.iteW b f g 0 = (c, x, 0)) :
    ACalls Try.prog 39 [.ptr o 0, .ptr p 0, .ptr q 0] σ (fun r σ' => r = .ret (.tup [encB c.1 c.2, .int .i64 x, .int .i64 0]) ∧ σ' = σ) := by
  refine calls_x mixed Try.func39 b39 n39 rfl q39 (by simp) ?_; unfold c39 r39
  have hn := fun τ => B.bdd_Ite b f g 0 τ hl hr
  rw [hc] at hn
  repeat' (first | simp (maxDischargeDepth := 9) -implicitDefEqProofs -dsimp only [go_sem, seval, *] | ((with_reducible refine Zt (fun oF hoF hnF hnF' => ?_)); (try simp only [upd_none, ne_eq, not_and] at hoF)) | ((with_reducible apply id_one0); (focus (intro tS hS; ((first | with_reducible refine hn _) <;> (first | (simp (maxDischargeDepth := 9) -implicitDefEqProofs -dsimp only [go_sem, seval, *]; done) | omega | ((with_reducible refine Sub.get hS ?_); simp (maxDischargeDepth := 9) -implicitDefEqProofs -dsimp only [go_sem, seval, *]; done))))); (focus (first | trivial | (simp (maxDischargeDepth := 9) -implicitDefEqProofs -dsimp only [go_sem, seval, *]; done)))))
  refine fin_eq ?_
  (repeat' (first | simp (maxDischargeDepth := 9) -implicitDefEqProofs -dsimp only [go_sem, seval, *])) <;> (repeat' refine And.intro ?_ ?_) <;> (first | omega | rfl | assumption | skip)
end Go.Proofs.Ytjichkelfhcbcaa

namespace Go.Proofs.Ytjichkelfhcbcaa
open Abs Fil Fil.Eqv
open Bd (D encB encF)
theorem eq_each (o k : Nat) (first caps : List AV) (a b L : List Int) (X : Nat → AObj) (σ : Sig) (h0 : σ o = some (X 0)) (hL : L.length = a.length + b.length) (hl : a.length + b.length ≤ 1000000)
    (hc : ∀ i (hi : i < (a ++ b).length) (τ : Sig), τ o = some (X i) → ACalls Try.prog k (first ++ [.int .i64 (a ++ b)[i]] ++ caps) τ (fun r s => r = .ret (.int .i64 (L.getD i 0)) ∧ s = upd τ o (X (i + 1)))) :
    ACalls Try.prog 41 [.fn k first caps, .slice [.slice (a.map encInt) .no, .slice (b.map encInt) .no] .no] σ (fun r σ' => r = .ret (.slice (L.map encInt) .no) ∧ σ' = upd σ o (X (a.length + b.length))) := by
  refine ACalls.virt (callable_of Try.func41 b41 n41) 1 (fun oV1 hoV1 hnV1 hnV1' => ?_); (try simp only [upd_none, ne_eq, not_and] at hoV1); refine calls_x mixed Try.func41 b41 n41 rfl q41 (by simp) ?_; unfold c41 r41
  have hn0 : ¬ σ o = none := by rw [h0]; simp
  have ho1 : ¬ o = oV1 := hnV1 o hn0
  have ho2 : ¬ oV1 = o := hnV1' o hn0
  have hcat := fun τ => sl_concat2 a b τ (by omega)
  have hab : (a ++ b).length = a.length + b.length := List.length_append
  obtain ⟨l, hll⟩ : ∃ l, a ++ b = l := ⟨_, rfl⟩
  rw [hll] at hab hc hcat
  obtain ⟨n, hn⟩ : ∃ n, a.length + b.length = n := ⟨_, rfl⟩
  rw [hn] at hab hL hl ⊢
  have hab' : l.length ≤ n ∧ n ≤ l.length := by omega
  have hL' : L.length ≤ n ∧ n ≤ L.length := by omega
  have hn1 : (l.length : Int) = n := by omega
  clear hab hL hll hn
  repeat' (first | simp (maxDischargeDepth := 9) -implicitDefEqProofs -dsimp only [go_sem, seval, *] | simp (disch := omega) only [wrap64] | ((with_reducible refine Zv ?_ ?_); focus (first | omega | exact rfl)) | ((with_reducible refine Zu ?_ ?_); focus omega) | ((with_reducible apply ACalls.one1); (focus ((first | with_reducible refine hcat _) <;> (first | (simp (maxDischargeDepth := 9) -implicitDefEqProofs -dsimp only [go_sem, seval, *]; done) | omega))); (focus (first | trivial | with_reducible exact rfl | (simp (maxDischargeDepth := 9) -implicitDefEqProofs -dsimp only [go_sem, seval]; done)))))
  refine loop_rule (fun i : Nat => [(10, some (.int .i64 i)), (9, some (.int .i64 n)), (8, some (.slice (l.map encInt) .no)), (4, some (.slice ((L.take i).map encInt) (.own oV1))), (0, some (.fn k first caps))])
    (fun i => upd (upd σ oV1 (.grow 1 i)) o (X i)) (fun i => i ≤ n) (fun i => n - i) 0 ?_ ?_
  · (repeat' (first | simp (maxDischargeDepth := 9) -implicitDefEqProofs -dsimp only [go_sem, seval, *] | simp (disch := omega) only [wrap64])) <;> (repeat' refine And.intro ?_ ?_) <;> (first | omega | rfl | assumption | skip)
  · intro i hi
    by_cases hlt : i < n
    · have hlt' : (i : Int) < n := by omega
      have hli : i < l.length := by omega
      have hs : L.take (i + 1) = L.take i ++ [L.getD i 0] := by
        have hLi : i < L.length := by omega
        rw [List.take_add_one, List.getElem?_eq_getElem hLi]
        simp [List.getD_eq_getElem?_getD, hLi]
      have hlen : (L.take i).length = i := by simp; omega
      have hci := fun τ => hc i hli τ
      clear hc hcat
      repeat' (first | simp (maxDischargeDepth := 9) -implicitDefEqProofs -dsimp only [go_sem, seval, *] | simp (disch := omega) only [wrap64] | ((with_reducible refine Zv ?_ ?_); focus (first | omega | exact rfl)) | ((with_reducible refine Zu ?_ ?_); focus omega) | ((with_reducible apply ACalls.one1); (focus ((first | with_reducible refine hci _ ?_) <;> (first | (simp (maxDischargeDepth := 9) -implicitDefEqProofs -dsimp only [go_sem, seval, *]; done) | omega))); (focus (first | trivial | with_reducible exact rfl | (simp (maxDischargeDepth := 9) -implicitDefEqProofs -dsimp only [go_sem, seval]; done)))))
      refine loop_next _ _ _ _ (i + 1) ?_; (repeat' (first | simp (maxDischargeDepth := 9) -implicitDefEqProofs -dsimp only [go_sem, seval,  List.map_append, List.map_cons, List.map_nil, *] | simp (disch := omega) only [wrap64])) <;> (repeat' refine And.intro ?_ ?_) <;> (first | omega | rfl | assumption | skip)
    · have e1 : i = n := by omega
      subst e1
      have hlt' : ¬ (i : Int) < i := by omega
      have e0 : L.take i = L := List.take_of_length_le (by omega)
      clear hc
      repeat' (first | simp (maxDischargeDepth := 9) -implicitDefEqProofs -dsimp only [go_sem, seval, *] | simp (disch := omega) only [wrap64] | ((with_reducible refine Zv ?_ ?_); focus (first | omega | exact rfl)) | ((with_reducible refine Zu ?_ ?_); focus omega))
      refine fin_eq ?_
      (repeat' (first | simp (maxDischargeDepth := 9) -implicitDefEqProofs -dsimp only [go_sem, seval, *] | simp (disch := omega) only [wrap64])) <;> (repeat' refine And.intro ?_ ?_) <;> (first | omega | rfl | assumption | skip)
end Go.Proofs.Ytjichkelfhcbcaa

namespace Fil.Eqv
open Abs
open Bd (D T3 In T varW notW iteW)
structure Room (b : D) : Prop where
  len : b.2.length ≤ 9223372036854775807
  room : Bd.Fine b.1 b.2 → b.2.length + 2 ^ (b.1.toNat + 1) ≤ 65537
  few : Bd.Fine b.1 b.2 → b.2.length < 65536
theorem Good.toRoom {n c : Nat} {b : D} (h : Good n c b) (hc : c ≤ 2000) : Room b := by
  have := h.room hc
  exact ⟨this.2.2.2, fun _ => this.1, fun _ => this.2.2.1⟩
structure LitAt (b : D) (nodes : List Int) (l : Int) : Prop where
  pos : 0 ≤ l
  lt : (l / 2).toNat < nodes.length
  few : l ≤ 4611686018427387904
  not : l % 2 ≠ 0 → notW b (nodes.getD (l / 2).toNat 0) = ((litM b nodes l).1, (litM b nodes l).2, 0)
  room : Room b
theorem rep_at {n c : Nat} {b : D} {nodes : List Int} {w v : List Bool} (h : Rep n c b nodes w v) (hc : c < 2000) {l : Int} (h0 : 0 ≤ l) (h1 : l < 2 * nodes.length) (hl : l ≤ 4611686018427387904) : LitAt b nodes l :=
  ⟨h0, by omega, hl, (rep_lit h hc h0 (by omega)).2.2.2.2, h.good.toRoom (by omega)⟩
theorem var_step {n i : Nat} (hn : n ≤ 8) (hi : i < n) : ∃ x, varW (stVars n i).1 i = ((stVars n (i + 1)).1, x, 0) ∧ (stVars n (i + 1)).2 = (stVars n i).2 ++ [x] ∧ Room (stVars n i).1 := by
  obtain ⟨r1, _⟩ := rep_vars hn (w := List.replicate n false) zeros i (by omega)
  have e : stVars n (i + 1) = stVar (stVars n i) i := by simp [stVars, List.range_succ]
  obtain ⟨_, k2⟩ := rep_var r1 (by omega) (show i < n by omega)
  refine ⟨(varW (stVars n i).1 i).2.1, ?_, by rw [e]; rfl, r1.good.toRoom (by omega)⟩
  rw [e]
  exact Prod.ext rfl (Prod.ext rfl k2)
theorem vars_len {n i : Nat} (hn : n ≤ 8) (hi : i ≤ n) : (stVars n i).2.length = i + 1 ∧ (stVars n i).1.1 = n := by
  obtain ⟨r1, r2⟩ := rep_vars hn (w := List.replicate n false) zeros i hi
  exact ⟨r2, r1.good.vars⟩
def stAt (g : Aig) (n i : Nat) : S := (g.ands.take i).foldl stAnd (stVars n n)
theorem stAt_rep {g : Aig} (h : Ok g) {n : Nat} (hn : (n : Int) = g.ins + g.flops.length) {w : List Bool} (hw : w.length = n) {i : Nat} (hi : i ≤ g.ands.length) :
    Rep n (n + 3 * i) (stAt g n i).1 (stAt g n i).2 w (Aig.vals (false :: w) (g.ands.take i)) ∧ (stAt g n i).2.length = n + 1 + i := by
  have h8 := h.eight
  have ha := h.ands
  subst hw
  obtain ⟨r1, r2⟩ := rep_vars (n := w.length) (by omega) rfl w.length (Nat.le_refl _)
  have ht : (false :: w).take (w.length + 1) = false :: w := List.take_of_length_le (by simp)
  rw [ht] at r1
  have hg := (good_gates h.good)
  have hfst : g.first = ((w.length + 1 : Nat) : Int) := by unfold Aig.first; omega
  rw [hfst] at hg
  have hl : (g.ands.take i).length = i := by simp; omega
  have hgi : Aig.gatesOk (w.length + 1 : Nat) (g.ands.take i) = true := by
    have e := List.take_append_drop i g.ands
    rw [← e, gatesOk_append, Bool.and_eq_true] at hg
    exact hg.1
  have := rep_ands (g.ands.take i) w.length (stVars w.length w.length) (false :: w) r1 (by omega) (by rw [r2]; exact hgi)
  rw [hl, r2] at this
  exact this
theorem and_step {g : Aig} (h : Ok g) {n : Nat} (hn : (n : Int) = g.ins + g.flops.length) {i : Nat} (hi : i < g.ands.length) : ∃ p q y : Int, ∃ b1 b2 : D,
    LitAt (stAt g n i).1 (stAt g n i).2 g.ands[i].1 ∧ litM (stAt g n i).1 (stAt g n i).2 g.ands[i].1 = (b1, p) ∧ LitAt b1 (stAt g n i).2 g.ands[i].2 ∧ litM b1 (stAt g n i).2 g.ands[i].2 = (b2, q) ∧
    iteW b2 p q 0 = ((stAt g n (i + 1)).1, y, 0) ∧ (stAt g n (i + 1)).2 = (stAt g n i).2 ++ [y] ∧ Room b2 ∧ b1.1 = n ∧ b2.1 = n := by
  have h8 := h.eight
  have ha := h.ands
  obtain ⟨r1, r2⟩ := stAt_rep h hn (w := List.replicate n false) zeros (Nat.le_of_lt hi)
  have hg := gatesOk_iff.1 (good_gates h.good) i hi
  have hfst : g.first = ((n + 1 : Nat) : Int) := by unfold Aig.first; omega
  have hlo := h.lo
  obtain ⟨g1, g2⟩ := hg
  have l1 : 0 ≤ g.ands[i].1 ∧ g.ands[i].1 < 2 * ((stAt g n i).2.length : Int) := by rw [r2]; omega
  have l2 : 0 ≤ g.ands[i].2 ∧ g.ands[i].2 < 2 * ((stAt g n i).2.length : Int) := by rw [r2]; omega
  obtain ⟨_, k2, k3, k4⟩ := rep_and r1 (by omega) l1 l2
  have e : stAt g n (i + 1) = stAnd (stAt g n i) g.ands[i] := by
    unfold stAt
    rw [take_succ hi, List.foldl_append]; rfl
  refine ⟨(litM (stAt g n i).1 (stAt g n i).2 g.ands[i].1).2, (litM (litM (stAt g n i).1 (stAt g n i).2 g.ands[i].1).1 (stAt g n i).2 g.ands[i].2).2, (iteW (litM (litM (stAt g n i).1 (stAt g n i).2 g.ands[i].1).1 (stAt g n i).2 g.ands[i].2).1 (litM (stAt g n i).1 (stAt g n i).2 g.ands[i].1).2 (litM (litM (stAt g n i).1 (stAt g n i).2 g.ands[i].1).1 (stAt g n i).2 g.ands[i].2).2 0).2.1, _, _, rep_at r1 (by omega) l1.1 l1.2 (by omega), rfl, rep_at k3 (by omega) l2.1 l2.2 (by omega), rfl, ?_, ?_, k4.good.toRoom (by omega), k3.good.vars, k4.good.vars⟩
  · rw [e]
    exact Prod.ext rfl (Prod.ext rfl k2)
  · rw [e]; rfl
def outAt (g : Aig) (i : Nat) : S := ((lits g).take i).foldl (stOut (bodyS g).2) ((bodyS g).1, [])
theorem body_at {g : Aig} {n : Nat} (hn : (n : Int) = g.ins + g.flops.length) : bodyS g = stAt g n g.ands.length := by
  unfold bodyS stAt
  rw [List.take_length, show (g.ins + g.flops.length).toNat = n by omega]
theorem out_all (g : Aig) : outAt g (lits g).length = forksS g := by unfold outAt forksS; rw [List.take_length]
theorem out_len (nodes : List Int) : ∀ (l : List Int) (s : S), (l.foldl (stOut nodes) s).2.length = s.2.length + l.length
  | [], s => by simp
  | a :: l, s => by
    have := out_len nodes l (stOut nodes s a)
    simp only [List.foldl_cons, List.length_cons, this]
    simp [stOut]; omega
theorem out_pre (nodes : List Int) : ∀ (l : List Int) (s : S), ∃ m, (l.foldl (stOut nodes) s).2 = s.2 ++ m
  | [], s => ⟨[], by simp⟩
  | a :: l, s => by
    obtain ⟨m, h⟩ := out_pre nodes l (stOut nodes s a)
    exact ⟨(litM s.1 nodes a).2 :: m, by simp only [List.foldl_cons, h]; simp [stOut]⟩
theorem out_step {g : Aig} (h : Ok g) {n : Nat} (hn : (n : Int) = g.ins + g.flops.length) {i : Nat} (hi : i < (lits g).length) :
    LitAt (outAt g i).1 (bodyS g).2 (lits g)[i] ∧ litM (outAt g i).1 (bodyS g).2 (lits g)[i] = ((outAt g (i + 1)).1, (forksS g).2.getD i 0) ∧ (outAt g i).1.1 = n := by
  have h8 := h.eight
  have ha := h.ands
  have ho := h.outs
  have hll := lits_len g
  have hlo := h.lo
  have hw : (((List.replicate n false).length : Nat) : Int) = g.ins + g.flops.length := by rw [zeros]; exact hn
  obtain ⟨b1, b2⟩ := body_rep h hw
  rw [zeros] at b1 b2
  have hfst : ((n + 1 : Nat) : Int) = g.first := by unfold Aig.first; omega
  have hlt : ((lits g).take i).length = i := by simp; omega
  have r := rep_outs (n := n) (nodes := (bodyS g).2) (w := List.replicate n false) (v := Aig.vals (false :: List.replicate n false) g.ands) ((lits g).take i) (n + 3 * g.ands.length) (bodyS g).1 [] [] b1
    ⟨b1.good, zeros, rfl, by simp, by simp⟩ (by omega) fun a ha => by
      have := lit_at hfst (h.lits a (List.mem_of_mem_take ha))
      rw [b2]; omega
  have r2 := r.2
  have hl := lit_at hfst (h.lits _ (List.getElem_mem hi))
  have hc : n + 3 * g.ands.length + ((lits g).take i).length < 2000 := by omega
  refine ⟨rep_at r2 hc hl.1 (by rw [b2]; omega) (by omega), ?_, r2.good.vars⟩
  have e : outAt g (i + 1) = stOut (bodyS g).2 (outAt g i) (lits g)[i] := by
    unfold outAt
    rw [take_succ hi, List.foldl_append]; rfl
  have e2 : (forksS g).2.getD i 0 = (litM (outAt g i).1 (bodyS g).2 (lits g)[i]).2 := by
    obtain ⟨m, hm⟩ := out_pre (bodyS g).2 ((lits g).drop (i + 1)) (outAt g (i + 1))
    have hf : forksS g = ((lits g).drop (i + 1)).foldl (stOut (bodyS g).2) (outAt g (i + 1)) := by
      unfold forksS outAt
      rw [← List.foldl_append, List.take_append_drop]
    rw [hf, hm, e]
    have hl2 : (outAt g i).2.length = i := by
      unfold outAt
      rw [out_len, hlt]; simp
    simp only [stOut, List.append_assoc, List.getD_eq_getElem?_getD]
    rw [List.getElem?_append_right (by omega), hl2]
    simp
  rw [e2, e]; rfl
theorem forks_len (g : Aig) : (forksS g).2.length = g.outs.length + g.flops.length := by
  unfold forksS
  rw [out_len, lits_len]; simp
end Fil.Eqv

namespace Go.Proofs.Ytjichkelfhcbcaa
open Abs Fil Fil.Eqv
open Bd (D encB encF)
theorem Zw (σ : Sig) (o o' : Nat) (x : AObj) : (upd σ o x o' = none) = (¬ o' = o ∧ ¬ o = o' ∧ σ o' = none) := B.Zw σ o o' x
theorem new_ok {n : Nat} (h : n ≤ 8) : B.newW (n : Int) = (newB n, 0) := by
  unfold B.newW newB
  rw [if_neg (by omega), if_neg (by omega)]
theorem eq_Forks_err (g : Aig) (e : Int) (hs : Wf g) (he : g.check = e) (h0 : e ≠ 0) (σ : Sig) :
    ACalls Try.prog 13 [encAig g] σ (fun r σ' => r = .ret (.tup [encB 0 [], .slice [] .no, .int .i64 e]) ∧ σ' = σ) := by
  refine calls_x mixed Try.func13 b13 n13 rfl q13 (by simp) ?_; unfold c13 r13
  have hb : (e != 0) = true := by simpa using h0
  repeat' (first | simp (maxDischargeDepth := 9) -implicitDefEqProofs -dsimp only [go_sem, seval, *] | ((with_reducible refine Zt (fun oF hoF hnF hnF' => ?_)); clear hnF hnF'; (try simp only [Zw, ne_eq] at hoF)) | ((with_reducible apply ACalls.one1); (focus ((first | with_reducible refine A.aig_Check g _ hs) <;> (first | (simp (maxDischargeDepth := 9) -implicitDefEqProofs -dsimp only [go_sem, seval, *]; done) | omega))); (focus (first | trivial | with_reducible exact rfl | (simp (maxDischargeDepth := 9) -implicitDefEqProofs -dsimp only [go_sem, seval]; done)))))
  refine fin_eq ?_
  (repeat' (first | simp (maxDischargeDepth := 9) -implicitDefEqProofs -dsimp only [go_sem, seval, List.map_nil, *])) <;> (repeat' refine And.intro ?_ ?_) <;> (first | omega | rfl | assumption | skip)
set_option maxRecDepth 20000 in
set_option maxHeartbeats 4000000 in
theorem eq_Forks (g : Aig) (hg : Ok g) (σ : Sig) :
    ACalls Try.prog 13 [encAig g] σ (fun r σ' => r = .ret (.tup [encB (forksS g).1.1 (forksS g).1.2, .slice ((forksS g).2.map encInt) .no, .int .i64 0]) ∧ σ' = σ) := by
  refine calls_x mixed Try.func13 b13 n13 rfl q13 (by simp) ?_; unfold c13 r13
  have ez : ((0 : Int) != 0) = false := by decide
  have hlo := hg.lo
  have h8 := hg.eight
  have hck := hg.check
  have hwf := hg.wf
  obtain ⟨n, hn⟩ : ∃ n : Nat, (n : Int) = g.ins + g.flops.length := ⟨(g.ins + g.flops.length).toNat, by omega⟩
  have hn8 : n ≤ 8 := by omega
  have hnn : g.ins + g.flops.length = (n : Int) := hn.symm
  have hnew := fun τ => B.bdd_New (n : Int) τ
  rw [new_ok hn8] at hnew
  have hand : g.ands.length ≤ 300 := hg.ands
  clear hn
  repeat' (first | simp (maxDischargeDepth := 9) -implicitDefEqProofs -dsimp only [go_sem, seval, *] | simp (disch := omega) only [wrap64] | ((with_reducible refine Zv ?_ ?_); focus (first | omega | exact rfl)) | ((with_reducible refine Zu ?_ ?_); focus omega) | ((with_reducible refine Zt (fun oF hoF hnF hnF' => ?_)); clear hnF hnF'; (try simp only [Zw, ne_eq] at hoF)) | ((with_reducible apply ACalls.one1); (focus ((first | with_reducible refine A.aig_Check g _ hwf | with_reducible refine hnew _ | with_reducible refine ACalls.flA (A.aig_Check g _ hwf) ?_ | with_reducible refine ACalls.flA (hnew _) ?_) <;> (first | (simp (maxDischargeDepth := 9) -implicitDefEqProofs -dsimp only [go_sem, seval, *]; done) | omega))); (focus (first | trivial | with_reducible exact rfl | (simp (maxDischargeDepth := 9) -implicitDefEqProofs -dsimp only [go_sem, seval]; done)))))
  rename_i o2 h2 o6 h6 oN hN oM hM
  obtain ⟨oC, eC⟩ : ∃ x, x = oF := ⟨oF, rfl⟩
  subst eC
  obtain ⟨l0, l1⟩ := vars_len hn8 (Nat.zero_le n)
  refine loop_rule (fun i : Nat => [(41, some (.int .i64 i)), (40, some (.int .i64 n)), (8, some (.ptr oC 0)), (1, some (.cptr (aigL g))), (2, some (.ptr o2 0))])
    (fun i => upd (upd (upd (upd (upd σ o2 (.cells [.int .i64 0, .slice [] .nil])) o6 (.cells [.int .i64 n, .slice ((newB n).2.map encF) .no])) oN (.grow 1 (i + 1))) oM (makC (stVars n i).1 (stVars n i).2 (.own oN))) oC (.cells [.ptr oM 0])) (fun i => i ≤ n) (fun i => n - i) 0 ?_ ?_
  · have e1 : (stVars n 0).1 = newB n := rfl
    have e2 : (stVars n 0).2 = [0] := rfl
    have e3 : (newB n).1 = (n : Int) := rfl
    (repeat' (first | simp (maxDischargeDepth := 9) -implicitDefEqProofs -dsimp only [go_sem, seval, e1, e2, e3, List.map_cons, List.map_nil, *] | simp (disch := omega) only [wrap64])) <;> (repeat' refine And.intro ?_ ?_) <;> (first | omega | rfl | assumption | skip)
  · intro i hi
    by_cases hlt : i < n
    · have hlt' : (i : Int) < n := by omega
      obtain ⟨x, k1, k2, k3⟩ := var_step hn8 hlt
      obtain ⟨k4, k5⟩ := vars_len hn8 hi
      obtain ⟨k3l, k3r, k3f⟩ := k3
      obtain ⟨⟨b, ns⟩, hb⟩ : ∃ s, stVars n i = s := ⟨_, rfl⟩
      obtain ⟨⟨c, ms⟩, hc⟩ : ∃ s, stVars n (i + 1) = s := ⟨_, rfl⟩
      rw [hb] at k1 k2 k3l k3r k3f k4 k5 ⊢
      rw [hc] at k1 k2
      simp only at k1 k2 k3l k3r k3f k4 k5
      subst k2
      have hns : ns.length ≤ 9 := by omega
      repeat' (first | simp (maxDischargeDepth := 9) -implicitDefEqProofs -dsimp only [go_sem, seval, *] | simp (disch := omega) only [wrap64] | ((with_reducible refine Zv ?_ ?_); focus (first | omega | exact rfl)) | ((with_reducible refine Zu ?_ ?_); focus omega) | ((with_reducible refine Zt (fun oF hoF hnF hnF' => ?_)); clear hnF hnF'; (try simp only [Zw, ne_eq] at hoF)) | ((with_reducible apply ACalls.one1); (focus ((first | with_reducible refine eq_put oM 36 [.ptr oC 0, .ptr oF 0] b c ns (.own oN) x _ ?_ (eq_var1 oC oF oM b ns (.own oN) i _ ?_ ?_ ?_ k3l k3f k1) | with_reducible refine ACalls.flA (eq_put oM 36 [.ptr oC 0, .ptr oF 0] b c ns (.own oN) x _ ?_ (eq_var1 oC oF oM b ns (.own oN) i _ ?_ ?_ ?_ k3l k3f k1)) ?_) <;> (first | (simp (maxDischargeDepth := 9) -implicitDefEqProofs -dsimp only [go_sem, seval, *]; done) | omega))); (focus (first | trivial | with_reducible exact rfl | (simp (maxDischargeDepth := 9) -implicitDefEqProofs -dsimp only [go_sem, seval]; done)))) | ((with_reducible apply id_one0); (focus (intro tS hS; ((first | with_reducible refine eq_put oM 36 [.ptr oC 0, .ptr oF 0] b c ns (.own oN) x _ ?_ (eq_var1 oC oF oM b ns (.own oN) i _ ?_ ?_ ?_ k3l k3f k1) | with_reducible refine ACalls.flA (eq_put oM 36 [.ptr oC 0, .ptr oF 0] b c ns (.own oN) x _ ?_ (eq_var1 oC oF oM b ns (.own oN) i _ ?_ ?_ ?_ k3l k3f k1)) ?_) <;> (first | (simp (maxDischargeDepth := 9) -implicitDefEqProofs -dsimp only [go_sem, seval, *]; done) | omega | ((with_reducible refine Sub.get hS ?_); simp (maxDischargeDepth := 9) -implicitDefEqProofs -dsimp only [go_sem, seval, *]; done))))); (focus (first | trivial | (simp (maxDischargeDepth := 9) -implicitDefEqProofs -dsimp only [go_sem, seval, *]; done)))) | ((with_reducible apply id_one1); (focus (intro tS hS; ((first | with_reducible refine eq_put oM 36 [.ptr oC 0, .ptr oF 0] b c ns (.own oN) x _ ?_ (eq_var1 oC oF oM b ns (.own oN) i _ ?_ ?_ ?_ k3l k3f k1) | with_reducible refine ACalls.flA (eq_put oM 36 [.ptr oC 0, .ptr oF 0] b c ns (.own oN) x _ ?_ (eq_var1 oC oF oM b ns (.own oN) i _ ?_ ?_ ?_ k3l k3f k1)) ?_) <;> (first | (simp (maxDischargeDepth := 9) -implicitDefEqProofs -dsimp only [go_sem, seval, *]; done) | omega | ((with_reducible refine Sub.get hS ?_); simp (maxDischargeDepth := 9) -implicitDefEqProofs -dsimp only [go_sem, seval, *]; done))))); (focus (first | trivial | (simp (maxDischargeDepth := 9) -implicitDefEqProofs -dsimp only [go_sem, seval, *]; done)))))
      refine loop_next _ _ _ _ (i + 1) ?_; (repeat' (first | simp (maxDischargeDepth := 9) -implicitDefEqProofs -dsimp only [go_sem, seval,  List.map_append, List.map_cons, List.map_nil, *] | simp (disch := omega) only [wrap64])) <;> (repeat' refine And.intro ?_ ?_) <;> (first | omega | rfl | assumption | skip)
    · have e : i = n := by omega
      subst e
      have hlt' : ¬ (i : Int) < i := by omega
      clear hlt hi l0 l1 hnew
      have z0 : stAt g i 0 = stVars i i := by simp [stAt]
      rw [← z0]
      repeat' (first | simp (maxDischargeDepth := 9) -implicitDefEqProofs -dsimp only [go_sem, seval, *] | simp (disch := omega) only [wrap64] | ((with_reducible refine Zv ?_ ?_); focus (first | omega | exact rfl)) | ((with_reducible refine Zu ?_ ?_); focus omega) | ((with_reducible refine Zt (fun oF hoF hnF hnF' => ?_)); clear hnF hnF'; (try simp only [Zw, ne_eq] at hoF)))
      refine loop_rule (fun j : Nat => [(60, some (.int .i64 j)), (59, some (.int .i64 g.ands.length)), (58, some (.slice (g.ands.map encGate) .no)), (8, some (.ptr oC 0)), (1, some (.cptr (aigL g))), (2, some (.ptr o2 0))])
        (fun j => upd (upd (upd (upd (upd σ o2 (.cells [.int .i64 0, .slice [] .nil])) o6 (.cells [.int .i64 i, .slice ((newB i).2.map encF) .no])) oN (.grow 1 (i + 1 + j))) oM (makC (stAt g i j).1 (stAt g i j).2 (.own oN))) oC (.cells [.ptr oM 0])) (fun j => j ≤ g.ands.length) (fun j => g.ands.length - j) 0 ?_ ?_
      · (repeat' (first | simp (maxDischargeDepth := 9) -implicitDefEqProofs -dsimp only [go_sem, seval, *] | simp (disch := omega) only [wrap64])) <;> (repeat' refine And.intro ?_ ?_) <;> (first | omega | rfl | assumption | skip)
      · intro j hj
        by_cases hlt : j < g.ands.length
        · have hlj : (j : Int) < g.ands.length := by omega
          obtain ⟨p, q, y, b1, b2, a1, a2, a3, a4, a5, a6, a7, a8, a9⟩ := and_step hg hnn.symm hlt
          have hl2 := (stAt_rep hg hnn.symm (w := List.replicate i false) zeros hj).2
          obtain ⟨⟨b, ns⟩, hb⟩ : ∃ s, stAt g i j = s := ⟨_, rfl⟩
          obtain ⟨⟨c, ms⟩, hc⟩ : ∃ s, stAt g i (j + 1) = s := ⟨_, rfl⟩
          rw [hb] at a1 a2 a3 a4 a6 hl2 ⊢
          rw [hc] at a5 a6
          simp only at a1 a2 a3 a4 a5 a6 hl2
          subst a6
          obtain ⟨u1, u2, u3, u4, u5⟩ := a1
          obtain ⟨v1, v2, v3, v4, v5⟩ := a3
          rw [a2] at u4
          rw [a4] at v4
          have cl1 := fun τ h => eq_lit oM b ns (.own oN) g.ands[j].1 τ h u1 u2 u3 u5.len u5.room (by rw [a2]; exact u4)
          have cl2 := fun τ h => eq_lit oM b1 ns (.own oN) g.ands[j].2 τ h v1 v2 v3 v5.len v5.room (by rw [a4]; exact v4)
          rw [a2] at cl1
          rw [a4] at cl2
          simp only at cl1 cl2
          clear hb u1 u2 u3 u4 u5 v1 v2 v3 v4 v5 a2 a4 hj z0
          have hns : ns.length ≤ 400 := by omega
          repeat' (first | simp (maxDischargeDepth := 9) -implicitDefEqProofs -dsimp only [go_sem, seval, *] | simp (disch := omega) only [wrap64] | ((with_reducible refine Zv ?_ ?_); focus (first | omega | exact rfl)) | ((with_reducible refine Zu ?_ ?_); focus omega) | ((with_reducible refine Zt (fun oF hoF hnF hnF' => ?_)); clear hnF hnF'; (try simp only [Zw, ne_eq] at hoF)) | ((with_reducible apply ACalls.one1); (focus ((first | with_reducible refine cl1 _ ?_ | with_reducible refine cl2 _ ?_ | with_reducible refine ACalls.flA (cl1 _ ?_) ?_ | with_reducible refine ACalls.flA (cl2 _ ?_) ?_) <;> (first | (simp (maxDischargeDepth := 9) -implicitDefEqProofs -dsimp only [go_sem, seval, *]; done) | omega))); (focus (first | trivial | with_reducible exact rfl | (simp (maxDischargeDepth := 9) -implicitDefEqProofs -dsimp only [go_sem, seval]; done)))))
          rename_i oP hP oX hX
          clear cl1 cl2
          repeat' (first | simp (maxDischargeDepth := 9) -implicitDefEqProofs -dsimp only [go_sem, seval, *] | simp (disch := omega) only [wrap64] | ((with_reducible refine Zv ?_ ?_); focus (first | omega | exact rfl)) | ((with_reducible refine Zu ?_ ?_); focus omega) | ((with_reducible refine Zt (fun oF hoF hnF hnF' => ?_)); clear hnF hnF'; (try simp only [Zw, ne_eq] at hoF)) | ((with_reducible apply ACalls.one1); (focus ((first | with_reducible refine eq_put oM 39 [.ptr oC 0, .ptr oX 0, .ptr oF 0] b2 c ns (.own oN) y _ ?_ (eq_ite1 oC oX oF oM b2 ns (.own oN) p q _ ?_ ?_ ?_ ?_ a7.len a7.room a5) | with_reducible refine ACalls.flA (eq_put oM 39 [.ptr oC 0, .ptr oX 0, .ptr oF 0] b2 c ns (.own oN) y _ ?_ (eq_ite1 oC oX oF oM b2 ns (.own oN) p q _ ?_ ?_ ?_ ?_ a7.len a7.room a5)) ?_) <;> (first | (simp (maxDischargeDepth := 9) -implicitDefEqProofs -dsimp only [go_sem, seval, *]; done) | omega))); (focus (first | trivial | with_reducible exact rfl | (simp (maxDischargeDepth := 9) -implicitDefEqProofs -dsimp only [go_sem, seval]; done)))) | ((with_reducible apply id_one0); (focus (intro tS hS; ((first | with_reducible refine eq_put oM 39 [.ptr oC 0, .ptr oX 0, .ptr oF 0] b2 c ns (.own oN) y _ ?_ (eq_ite1 oC oX oF oM b2 ns (.own oN) p q _ ?_ ?_ ?_ ?_ a7.len a7.room a5) | with_reducible refine ACalls.flA (eq_put oM 39 [.ptr oC 0, .ptr oX 0, .ptr oF 0] b2 c ns (.own oN) y _ ?_ (eq_ite1 oC oX oF oM b2 ns (.own oN) p q _ ?_ ?_ ?_ ?_ a7.len a7.room a5)) ?_) <;> (first | (simp (maxDischargeDepth := 9) -implicitDefEqProofs -dsimp only [go_sem, seval, *]; done) | omega | ((with_reducible refine Sub.get hS ?_); simp (maxDischargeDepth := 9) -implicitDefEqProofs -dsimp only [go_sem, seval, *]; done))))); (focus (first | trivial | (simp (maxDischargeDepth := 9) -implicitDefEqProofs -dsimp only [go_sem, seval, *]; done)))) | ((with_reducible apply id_one1); (focus (intro tS hS; ((first | with_reducible refine eq_put oM 39 [.ptr oC 0, .ptr oX 0, .ptr oF 0] b2 c ns (.own oN) y _ ?_ (eq_ite1 oC oX oF oM b2 ns (.own oN) p q _ ?_ ?_ ?_ ?_ a7.len a7.room a5) | with_reducible refine ACalls.flA (eq_put oM 39 [.ptr oC 0, .ptr oX 0, .ptr oF 0] b2 c ns (.own oN) y _ ?_ (eq_ite1 oC oX oF oM b2 ns (.own oN) p q _ ?_ ?_ ?_ ?_ a7.len a7.room a5)) ?_) <;> (first | (simp (maxDischargeDepth := 9) -implicitDefEqProofs -dsimp only [go_sem, seval, *]; done) | omega | ((with_reducible refine Sub.get hS ?_); simp (maxDischargeDepth := 9) -implicitDefEqProofs -dsimp only [go_sem, seval, *]; done))))); (focus (first | trivial | (simp (maxDischargeDepth := 9) -implicitDefEqProofs -dsimp only [go_sem, seval, *]; done)))))
          refine loop_next _ _ _ _ (j + 1) ?_; (repeat' (first | simp (maxDischargeDepth := 9) -implicitDefEqProofs -dsimp only [go_sem, seval,  List.map_append, List.map_cons, List.map_nil, *] | simp (disch := omega) only [wrap64])) <;> (repeat' refine And.intro ?_ ?_) <;> (first | omega | rfl | assumption | skip)
        · have e : j = g.ands.length := by omega
          have hlj : ¬ (g.ands.length : Int) < g.ands.length := by omega
          have hbd := body_at hnn.symm
          rw [e, ← hbd]
          clear hlt hj z0 hbd e
          have hst := fun k hk => out_step hg hnn.symm (i := k) hk
          have hfl := hwf.flops
          have hol := hwf.outs
          have hgo := hg.outs
          have hFl := forks_len g
          have hX : ∀ k (hk : k < (g.outs ++ g.flops.map (·.next)).length) (τ : Sig), τ oM = some (makC (outAt g k).1 (bodyS g).2 (.own oN)) →
              ACalls Try.prog 38 ([.ptr oM 0] ++ [.int .i64 (g.outs ++ g.flops.map (·.next))[k]] ++ []) τ (fun r s => r = .ret (.int .i64 ((forksS g).2.getD k 0)) ∧ s = upd τ oM (makC (outAt g (k + 1)).1 (bodyS g).2 (.own oN))) := fun k hk τ hτ => by
            obtain ⟨⟨u1, u2, u3, u4, u5⟩, s2, s3⟩ := hst k hk
            have := eq_lit oM (outAt g k).1 (bodyS g).2 (.own oN) (lits g)[k] τ hτ u1 u2 u3 u5.len u5.room u4
            rw [s2] at this
            exact this
          have hE := fun τ h => eq_each oM 38 [.ptr oM 0] [] g.outs (g.flops.map (·.next)) (forksS g).2 (fun k => makC (outAt g k).1 (bodyS g).2 (.own oN)) τ h (by rw [hFl]; simp) (by simp; omega) hX
          have hoe : (outAt g (g.outs.length + (g.flops.map (·.next)).length)).1 = (forksS g).1 := by
            rw [← out_all, lits_len]; simp
          have ho0 : outAt g 0 = ((bodyS g).1, []) := rfl
          rw [hoe] at hE
          simp only [ho0] at hE
          clear hX hst hFl
          repeat' (first | simp (maxDischargeDepth := 9) -implicitDefEqProofs -dsimp only [go_sem, seval, *] | simp (disch := omega) only [wrap64] | ((with_reducible refine Zv ?_ ?_); focus (first | omega | exact rfl)) | ((with_reducible refine Zu ?_ ?_); focus omega) | ((with_reducible refine Zt (fun oF hoF hnF hnF' => ?_)); clear hnF hnF'; (try simp only [Zw, ne_eq] at hoF)) | ((with_reducible apply ACalls.one1); (focus ((first | with_reducible refine eq_nexts g _ hfl | with_reducible refine hE _ ?_ | with_reducible refine ACalls.flA (eq_nexts g _ hfl) ?_ | with_reducible refine ACalls.flA (hE _ ?_) ?_) <;> (first | (simp (maxDischargeDepth := 9) -implicitDefEqProofs -dsimp only [go_sem, seval, *]; done) | omega))); (focus (first | trivial | with_reducible exact rfl | (simp (maxDischargeDepth := 9) -implicitDefEqProofs -dsimp only [go_sem, seval]; done)))) | ((with_reducible apply id_one0); (focus (intro tS hS; ((first | with_reducible refine eq_nexts g _ hfl | with_reducible refine hE _ ?_ | with_reducible refine ACalls.flA (eq_nexts g _ hfl) ?_ | with_reducible refine ACalls.flA (hE _ ?_) ?_) <;> (first | (simp (maxDischargeDepth := 9) -implicitDefEqProofs -dsimp only [go_sem, seval, *]; done) | omega | ((with_reducible refine Sub.get hS ?_); simp (maxDischargeDepth := 9) -implicitDefEqProofs -dsimp only [go_sem, seval, *]; done))))); (focus (first | trivial | (simp (maxDischargeDepth := 9) -implicitDefEqProofs -dsimp only [go_sem, seval, *]; done)))) | ((with_reducible apply id_one1); (focus (intro tS hS; ((first | with_reducible refine eq_nexts g _ hfl | with_reducible refine hE _ ?_ | with_reducible refine ACalls.flA (eq_nexts g _ hfl) ?_ | with_reducible refine ACalls.flA (hE _ ?_) ?_) <;> (first | (simp (maxDischargeDepth := 9) -implicitDefEqProofs -dsimp only [go_sem, seval, *]; done) | omega | ((with_reducible refine Sub.get hS ?_); simp (maxDischargeDepth := 9) -implicitDefEqProofs -dsimp only [go_sem, seval, *]; done))))); (focus (first | trivial | (simp (maxDischargeDepth := 9) -implicitDefEqProofs -dsimp only [go_sem, seval, *]; done)))))
          refine fin_eq ?_
          (repeat' (first | simp (maxDischargeDepth := 9) -implicitDefEqProofs -dsimp only [go_sem, seval, *] | simp (disch := omega) only [wrap64])) <;> (repeat' refine And.intro ?_ ?_) <;> (first | omega | rfl | assumption | skip)
end Go.Proofs.Ytjichkelfhcbcaa

