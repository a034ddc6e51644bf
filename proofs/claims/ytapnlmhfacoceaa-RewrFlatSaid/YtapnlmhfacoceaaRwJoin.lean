/- rewr: least, joined: models and what they keep. No program in sight. -/
import Derived.Shelf.Slices.Cells
import Derived.Test.YtapnlmhfacoceaaRwMap
set_option linter.unusedSimpArgs false
set_option linter.unusedVariables false
namespace Fil.Rw
open Abs
open Eqv (moveL)
def rts (g : Aig) : List Int := g.outs ++ g.flops.map (·.next)
def mark (v : List Bool) (l : List Int) : List Bool := l.foldl (fun v a => v.set (a / 2).toNat true) v
def ndAt (g : Aig) : Nat → List Bool
  | 0 => mark (List.replicate (1 + g.count).toNat false) (rts g)
  | k + 1 =>
    let i := g.ands.length - 1 - k
    let x := g.ands.getD i (0, 0)
    let n := ndAt g k
    if n.getD (g.first + i).toNat false then mark n [x.1, x.2] else n
def ndG (g : Aig) (n : Nat) : Bool := (ndAt g g.ands.length).getD n false
def swAt (g : Aig) : Nat → B
  | 0 => bgn g fun _ => none
  | i + 1 =>
    let b := swAt g i
    let x := g.ands.getD i (0, 0)
    if ndG g (g.first + i).toNat then
      let L := b.lits ++ [2 * (g.first + b.g.ands.length)]
      ⟨{ b.g with ands := b.g.ands ++ [(moveL L x.1, moveL L x.2)] }, L, b.lev⟩
    else ⟨b.g, b.lits ++ [0], b.lev⟩
def sweep (g : Aig) : Aig := endB g (fun _ => none) (swAt g g.ands.length)
theorem mark_len : ∀ (l : List Int) (v : List Bool), (mark v l).length = v.length
  | [], v => rfl
  | a :: l, v => by
    have := mark_len l (v.set (a / 2).toNat true)
    simpa [mark] using this
theorem ndAt_len (g : Aig) : ∀ k, (ndAt g k).length = (1 + g.count).toNat
  | 0 => by simp [ndAt, mark_len]
  | k + 1 => by
    have := ndAt_len g k
    unfold ndAt
    simp only
    split
    · rw [mark_len]; exact this
    · exact this
theorem getD_set (v : List Bool) (i n : Nat) : (v.set i true).getD n false = ((v.getD n false) || (decide (i = n) && decide (i < v.length))) := by
  simp only [List.getD_eq_getElem?_getD, List.getElem?_set]
  by_cases h : i = n
  · subst h
    by_cases h2 : i < v.length
    · simp [h2]
    · simp [h2]
  · simp [h]
theorem mark_get (n : Nat) : ∀ (l : List Int) (v : List Bool), (mark v l).getD n false = true ↔ v.getD n false = true ∨ (n < v.length ∧ ∃ a ∈ l, (a / 2).toNat = n)
  | [], v => by simp [mark]
  | a :: l, v => by
    have ih := mark_get n l (v.set (a / 2).toNat true)
    have e : mark v (a :: l) = mark (v.set (a / 2).toNat true) l := rfl
    rw [e, ih, getD_set, List.length_set]
    simp only [Bool.or_eq_true, Bool.and_eq_true, decide_eq_true_eq, List.mem_cons, exists_eq_or_imp]
    constructor
    · rintro ((h | ⟨h1, h2⟩) | h)
      · exact .inl h
      · exact .inr ⟨by omega, .inl h1⟩
      · exact .inr ⟨h.1, .inr h.2⟩
    · rintro (h | ⟨h1, h2 | h2⟩)
      · exact .inl (.inl h)
      · exact .inl (.inr ⟨h2, by omega⟩)
      · exact .inr ⟨h1, h2⟩
theorem ndAt_mono {g : Aig} {n : Nat} : ∀ {k j : Nat}, k ≤ j → (ndAt g k).getD n false = true → (ndAt g j).getD n false = true := fun {k j} h hn => by
  induction j with
  | zero => rw [show k = 0 by omega] at hn; exact hn
  | succ j ih =>
    by_cases e : k = j + 1
    · rw [← e]; exact hn
    · have := ih (by omega)
      unfold ndAt
      simp only
      split
      · exact (mark_get _ _ _).2 (.inl this)
      · exact this
theorem ands_getD {g : Aig} {i : Nat} (h : i < g.ands.length) : g.ands.getD i (0, 0) = g.ands[i] := by simp [List.getD_eq_getElem?_getD, h]
theorem root_lit {g : Aig} (hg : Sml g) {a : Int} (ha : a ∈ rts g) : 0 ≤ a ∧ a < 2 * (1 + g.count) := by
  unfold rts at ha
  rcases List.mem_append.1 ha with h | h
  · exact good_outs hg.good h
  · obtain ⟨f, hf, rfl⟩ := List.mem_map.1 h
    exact good_flops hg.good hf
theorem ndAt_late {g : Aig} (hg : Sml g) {i : Nat} (hi : i < g.ands.length) : ∀ {k : Nat}, g.ands.length - 1 - i ≤ k → k ≤ g.ands.length → (ndAt g k).getD (g.first + i).toNat false = true → (ndAt g (g.ands.length - 1 - i)).getD (g.first + i).toNat false = true := fun {k} h hk hn => by
  induction k with
  | zero => rw [show g.ands.length - 1 - i = 0 by omega]; exact hn
  | succ k ih =>
    by_cases e : g.ands.length - 1 - i = k + 1
    · rw [e]; exact hn
    · refine ih (by omega) (by omega) ?_
      unfold ndAt at hn
      simp only at hn
      split at hn
      · rcases (mark_get _ _ _).1 hn with q | ⟨_, a, ha, q⟩
        · exact q
        · exfalso
          have hj : g.ands.length - 1 - k < g.ands.length := by omega
          have hb := gate_bounds hg hj
          rw [ands_getD hj] at ha
          simp only [List.mem_cons, List.not_mem_nil, or_false] at ha
          have hlo := hg.lo
          have hf : 1 ≤ g.first := by unfold Aig.first; omega
          rcases ha with rfl | rfl <;> omega
      · exact hn
theorem nd_root {g : Aig} (hg : Sml g) {a : Int} (ha : a ∈ rts g) : ndG g (a / 2).toNat = true := by
  refine ndAt_mono (Nat.zero_le _) ?_
  have := root_lit hg ha
  exact (mark_get _ _ _).2 (.inr ⟨by rw [List.length_replicate]; omega, a, ha, rfl⟩)
theorem nd_step {g : Aig} (hg : Sml g) {i : Nat} (hi : i < g.ands.length) (h : ndG g (g.first + i).toNat = true) : ndG g (g.ands[i].1 / 2).toNat = true ∧ ndG g (g.ands[i].2 / 2).toNat = true := by
  have h1 := ndAt_late hg hi (k := g.ands.length) (by omega) (Nat.le_refl _) h
  have hb := gate_bounds hg hi
  have e : g.ands.length - 1 - (g.ands.length - 1 - i) = i := by omega
  have cf := count_first g
  have hstep : ∀ a, a = g.ands[i].1 ∨ a = g.ands[i].2 → ndG g (a / 2).toNat = true := fun a ha => by
    refine ndAt_mono (show g.ands.length - 1 - i + 1 ≤ g.ands.length by omega) ?_
    unfold ndAt
    simp only [e, ands_getD hi]
    rw [if_pos h1]
    refine (mark_get _ _ _).2 (.inr ⟨?_, a, ?_, rfl⟩)
    · rw [ndAt_len]
      rcases ha with rfl | rfl <;> omega
    · rcases ha with rfl | rfl <;> simp
  exact ⟨hstep _ (.inl rfl), hstep _ (.inr rfl)⟩
theorem nd_least {g : Aig} (hg : Sml g) (Q : Nat → Prop) (h0 : ∀ a ∈ rts g, Q (a / 2).toNat) (h1 : ∀ i, (h : i < g.ands.length) → Q (g.first + i).toNat → Q (g.ands[i].1 / 2).toNat ∧ Q (g.ands[i].2 / 2).toNat) {n : Nat} (h : ndG g n = true) : Q n := by
  have : ∀ k, k ≤ g.ands.length → ∀ n, (ndAt g k).getD n false = true → Q n := fun k => by
    induction k with
    | zero =>
      intro _ n hn
      rcases (mark_get _ _ _).1 hn with q | ⟨_, a, ha, rfl⟩
      · simp [List.getD_eq_getElem?_getD, List.getElem?_replicate] at q
        split at q <;> simp at q
      · exact h0 a ha
    | succ k ih =>
      intro hk n hn
      unfold ndAt at hn
      simp only at hn
      split at hn
      · rename_i hc
        rcases (mark_get _ _ _).1 hn with q | ⟨_, a, ha, rfl⟩
        · exact ih (by omega) n q
        · have hi : g.ands.length - 1 - k < g.ands.length := by omega
          have := h1 _ hi (ih (by omega) _ hc)
          rw [ands_getD hi] at ha
          simp only [List.mem_cons, List.not_mem_nil, or_false] at ha
          rcases ha with rfl | rfl
          · exact this.1
          · exact this.2
      · exact ih (by omega) n hn
  exact this _ (Nat.le_refl _) n h
def Cov (g : Aig) (l : List Int) (m : List (Int × Bool)) (a : Int) : Prop := a / 2 < g.first ∨ gk m (a / 2) = some true ∨ ∃ b ∈ l, b / 2 = a / 2
structure SwI (g : Aig) (l : List Int) (m : List (Int × Bool)) : Prop where
  keys : ∀ n v, gk m n = some v → v = true ∧ g.first ≤ n ∧ n < 1 + g.count ∧ ndG g n.toNat = true
  stk : ∀ a ∈ l, 0 ≤ a ∧ a < 2 * (1 + g.count) ∧ ndG g (a / 2).toNat = true
  root : ∀ a ∈ rts g, Cov g l m a
  cl : ∀ i, (h : i < g.ands.length) → gk m (g.first + i) = some true → Cov g l m g.ands[i].1 ∧ Cov g l m g.ands[i].2
theorem sw_start {g : Aig} (hg : Sml g) : SwI g (rts g) [] :=
  ⟨fun n v h => by simp [gk] at h, fun a ha => ⟨(root_lit hg ha).1, (root_lit hg ha).2, nd_root hg ha⟩, fun a ha => .inr (.inr ⟨a, ha, rfl⟩), fun i h hk => by simp [gk] at hk⟩
theorem sw_skip {g : Aig} {l : List Int} {a : Int} {m : List (Int × Bool)} (h : SwI g (l ++ [a]) m) (hs : a / 2 < g.first ∨ gk m (a / 2) = some true) : SwI g l m := by
  have hc : ∀ x, Cov g (l ++ [a]) m x → Cov g l m x := fun x hx => by
    rcases hx with q | q | ⟨b, hb, q⟩
    · exact .inl q
    · exact .inr (.inl q)
    · rcases List.mem_append.1 hb with r | r
      · exact .inr (.inr ⟨b, r, q⟩)
      · simp at r; subst r
        rw [q] at hs
        rcases hs with s | s
        · exact .inl s
        · exact .inr (.inl s)
  exact ⟨h.keys, fun x hx => h.stk x (List.mem_append_left _ hx), fun x hx => hc x (h.root x hx), fun i hi hk => ⟨hc _ (h.cl i hi hk).1, hc _ (h.cl i hi hk).2⟩⟩
theorem sw_take {g : Aig} (hg : Sml g) {l : List Int} {a : Int} {m : List (Int × Bool)} (h : SwI g (l ++ [a]) m) (h1 : g.first ≤ a / 2) {i : Nat} (he : a / 2 = g.first + i) (hi : i < g.ands.length) :
    SwI g (l ++ [g.ands[i].1, g.ands[i].2]) (sk m (a / 2) true) := by
  have hlo := hg.lo
  have cf := count_first g
  obtain ⟨s1, s2, s3⟩ := h.stk a (by simp)
  have hc : ∀ x, Cov g (l ++ [a]) m x → Cov g (l ++ [g.ands[i].1, g.ands[i].2]) (sk m (a / 2) true) x := fun x hx => by
    rcases hx with q | q | ⟨b, hb, q⟩
    · exact .inl q
    · refine .inr (.inl ?_)
      rw [gk_sk]; split
      · rfl
      · exact q
    · rcases List.mem_append.1 hb with r | r
      · exact .inr (.inr ⟨b, List.mem_append_left _ r, q⟩)
      · simp at r; subst r
        refine .inr (.inl ?_)
        rw [gk_sk, if_pos q.symm]
  have hb := gate_bounds hg hi
  have hst := nd_step hg hi (by rw [← he]; exact s3)
  refine ⟨fun n v hk => ?_, fun x hx => ?_, fun x hx => hc x (h.root x hx), fun j hj hk => ?_⟩
  · rw [gk_sk] at hk
    split at hk
    · rename_i e
      subst e
      simp only [Option.some.injEq] at hk
      exact ⟨hk.symm, h1, by omega, s3⟩
    · exact h.keys n v hk
  · rcases List.mem_append.1 hx with r | r
    · exact h.stk x (List.mem_append_left _ r)
    · simp only [List.mem_cons, List.not_mem_nil, or_false] at r
      rcases r with rfl | rfl
      · exact ⟨hb.1.1, by omega, hst.1⟩
      · exact ⟨hb.2.1, by omega, hst.2⟩
  · rw [gk_sk] at hk
    split at hk
    · rename_i e
      have : j = i := by omega
      subst this
      exact ⟨.inr (.inr ⟨g.ands[j].1, by simp, rfl⟩), .inr (.inr ⟨g.ands[j].2, by simp, rfl⟩)⟩
    · exact ⟨hc _ (h.cl j hj hk).1, hc _ (h.cl j hj hk).2⟩
theorem sw_done {g : Aig} (hg : Sml g) {m : List (Int × Bool)} (h : SwI g [] m) {i : Nat} (hi : i < g.ands.length) : (gk m (g.first + i)).getD false = ndG g (g.first + i).toNat := by
  have hlo := hg.lo
  have hf : 1 ≤ g.first := by unfold Aig.first; omega
  have hc : ∀ a, 0 ≤ a → Cov g [] m a → (((a / 2).toNat : Nat) : Int) < g.first ∨ gk m ((a / 2).toNat : Nat) = some true := fun a h0 ha => by
    have e : (((a / 2).toNat : Nat) : Int) = a / 2 := by omega
    rw [e]
    rcases ha with q | q | ⟨b, hb, q⟩
    · exact .inl q
    · exact .inr q
    · simp at hb
  cases hn : ndG g (g.first + i).toNat with
  | true =>
    have := nd_least hg (fun n => (n : Int) < g.first ∨ gk m n = some true) (fun a ha => hc a (root_lit hg ha).1 (h.root a ha)) (fun j hj hq => by
      have e : (((g.first + j).toNat : Nat) : Int) = g.first + j := by omega
      rw [e] at hq
      rcases hq with q | q
      · omega
      · have hb := gate_bounds hg hj
        exact ⟨hc _ hb.1.1 (h.cl j hj q).1, hc _ hb.2.1 (h.cl j hj q).2⟩) hn
    have e : (((g.first + i).toNat : Nat) : Int) = g.first + i := by omega
    rw [e] at this
    rcases this with q | q
    · omega
    · rw [q]; rfl
  | false =>
    cases hk : gk m (g.first + i) with
    | none => rfl
    | some v =>
      have := (h.keys _ _ hk).2.2.2
      rw [hn] at this; simp at this
def unm (g : Aig) (m : List (Int × Bool)) : Nat → Nat
  | 0 => 0
  | i + 1 => unm g m i + if gk m (g.first + i) = none then 1 else 0
theorem unm_le (g : Aig) (m : List (Int × Bool)) : ∀ n, unm g m n ≤ n
  | 0 => Nat.le_refl _
  | n + 1 => by have := unm_le g m n; unfold unm; split <;> omega
theorem unm_set {g : Aig} {m : List (Int × Bool)} {j : Nat} {v : Bool} (hj : gk m (g.first + j) = none) : ∀ n, unm g (sk m (g.first + j) v) n + (if j < n then 1 else 0) = unm g m n
  | 0 => by simp [unm]
  | n + 1 => by
    have ih := unm_set (v := v) hj n
    unfold unm
    rw [gk_sk]
    by_cases e : n = j
    · subst e
      simp only [if_true, hj, Nat.lt_irrefl, if_false, Nat.add_zero] at ih ⊢
      simp [ih]
    · have c : ¬ g.first + (n : Int) = g.first + j := by omega
      rw [if_neg c]
      by_cases h1 : j < n
      · have e2 : (if j < n + 1 then 1 else 0) = 1 := if_pos (by omega)
        rw [if_pos h1] at ih; rw [e2]; omega
      · have e2 : (if j < n + 1 then 1 else 0) = 0 := if_neg (by omega)
        rw [if_neg h1] at ih; rw [e2]; omega
structure SwJ (g : Aig) (i : Nat) (b : B) : Prop where
  flops : b.g.flops = (bgAt g (fun _ => none) g.flops.length).2
  ins : b.g.ins = g.ins
  outs : b.g.outs = []
  lev : b.lev = (bgn g fun _ => none).lev
  len : b.lits.length = g.first.toNat + i
  few : b.g.ands.length ≤ i
  lits : ∀ x ∈ b.lits, 0 ≤ x ∧ x < 2 * (g.first + b.g.ands.length)
theorem none_len (g : Aig) : ∀ i, (bgAt g (fun _ => none) i).2.length = i
  | 0 => rfl
  | i + 1 => by
    have ih := none_len g i
    unfold bgAt
    simp [ih]
theorem sw_inv {g : Aig} (hg : Sml g) : ∀ i, i ≤ g.ands.length → SwJ g i (swAt g i)
  | 0, _ => by
    obtain ⟨h1, h2, h3, h4⟩ := bgn_bd hg fun _ => none
    have hl := bg_lits g (fun _ => none) hg.lo g.flops.length
    have h0 : (bgn g fun _ => none).g.ands.length = 0 := rfl
    refine ⟨rfl, rfl, rfl, rfl, h4, by unfold swAt; rw [h0]; exact Nat.le_refl _, fun x hx => ?_⟩
    have := hl x hx
    rw [none_len] at this
    unfold swAt
    rw [h0]
    simp only [Aig.first]
    omega
  | i + 1, hi => by
    have ih := sw_inv hg i (by omega)
    have hlo := hg.lo
    have hf : 1 ≤ g.first := by unfold Aig.first; omega
    unfold swAt
    simp only
    split
    · refine ⟨ih.flops, ih.ins, ih.outs, ih.lev, ?_, ?_, fun x hx => ?_⟩
      · simp only [List.length_append, List.length_cons, List.length_nil, ih.len]; omega
      · have := ih.few
        simp only [List.length_append, List.length_cons, List.length_nil]; omega
      · simp only [List.length_append, List.length_cons, List.length_nil] at hx ⊢
        rcases List.mem_append.1 hx with q | q
        · have := ih.lits x q; omega
        · simp at q; omega
    · refine ⟨ih.flops, ih.ins, ih.outs, ih.lev, ?_, ?_, fun x hx => ?_⟩
      · simp only [List.length_append, List.length_cons, List.length_nil, ih.len]; omega
      · have := ih.few; simp only; omega
      · simp only at hx ⊢
        rcases List.mem_append.1 hx with q | q
        · exact ih.lits x q
        · simp at q; omega
end Fil.Rw

namespace Go.Proofs.Ytapnlmhfacoceaa
open Abs Fil Fil.Rw
open Eqv (moveL)
def Rts (σ : Sig) (l : List Int) : ARes → Sig → Prop := fun r s =>
  (l = [] ∧ (r = .ret (.slice [] .nil) ∨ r = .ret (.slice [] .full)) ∧ s = σ) ∨ (l ≠ [] ∧ NewO σ (fun o => .vec o l.length) (.vec 1 l.length (l.map encInt)) r s)
theorem flat_ints (l : List Int) : flat (l.map encInt) = l.map encInt := by
  induction l with
  | nil => rfl
  | cons a l ih => simp only [List.map_cons, flat_cons, ih]; rfl
set_option maxRecDepth 20000 in
theorem rw_Clone (l : List Int) (t : Tok) (σ : Sig) (hl : l.length ≤ 1000000) : ACalls Try.prog 70 [.slice (l.map encInt) t] σ (Rts σ l) := by
  refine calls_x mixed Try.func70 b70 n70 rfl q70 (by simp) ?_; unfold c70 r70
  by_cases h : l = []
  · subst h
    repeat' (first | simp (maxDischargeDepth := 9) -implicitDefEqProofs -dsimp only [go_sem, seval, List.map_nil, *] | ((with_reducible refine Zv ?_ ?_); focus (first | omega | exact rfl)) | ((with_reducible refine Zt (fun oF hoF hnF hnF' => ?_)); (try simp only [upd_none, ne_eq, not_and] at hoF)))
    exact ⟨fin_id (.inl ⟨rfl, .inl rfl, rfl⟩), fin_id (.inl ⟨rfl, .inr rfl, rfl⟩)⟩
  · obtain ⟨a, m, rfl⟩ : ∃ a m, l = a :: m := by cases l with | nil => exact absurd rfl h | cons a m => exact ⟨a, m, rfl⟩
    have hfi : flat (encInt a :: List.map encInt m) = encInt a :: List.map encInt m := flat_ints (a :: m)
    have hl' : m.length + 1 ≤ 1000000 := hl
    repeat' (first | simp (maxDischargeDepth := 9) -implicitDefEqProofs -dsimp only [go_sem, seval, Nat.zero_add, flat_nil, List.nil_append, *] | ((with_reducible refine Zv ?_ ?_); focus (first | omega | exact rfl)) | ((with_reducible refine Zt (fun oF hoF hnF hnF' => ?_)); (try simp only [upd_none, ne_eq, not_and] at hoF)))
    refine fin_v (.vec oF (a :: m).length) (upd σ oF (.vec 1 (a :: m).length ((a :: m).map encInt))) (.inr ⟨h, oF, hoF, rfl, rfl⟩) ?_ ?_
    · (repeat' (first | simp (maxDischargeDepth := 9) -implicitDefEqProofs -dsimp only [go_sem, seval, Nat.zero_add, *])) <;> (repeat' refine And.intro ?_ ?_) <;> (first | omega | rfl | assumption | skip)
    · (repeat' (first | simp (maxDischargeDepth := 9) -implicitDefEqProofs -dsimp only [go_sem, seval, Nat.zero_add, flat_nil, List.nil_append, *])) <;> (repeat' refine And.intro ?_ ?_) <;> (first | omega | rfl | assumption | skip)
def inN (t : AV) (p : Nat) (l : List Int) : AV := if l = [] then t else .vec p l.length
def inO (l : List Int) : AObj := if l = [] then .virt 1 else .vec 1 l.length (l.map encInt)
theorem inN_nil (t : AV) (p : Nat) : inN t p [] = t := rfl
theorem inO_nil : inO [] = .virt 1 := rfl
theorem inN_ne (t : AV) (p : Nat) {l : List Int} (h : l ≠ []) : inN t p l = .vec p l.length := if_neg h
theorem inO_ne {l : List Int} (h : l ≠ []) : inO l = .vec 1 l.length (l.map encInt) := if_neg h
theorem inN_app (t : AV) (p : Nat) (l : List Int) (x : Int) : inN t p (l ++ [x]) = .vec p (l.length + 1) := by rw [inN_ne t p (by simp)]; simp
theorem inO_app (l : List Int) (x : Int) : inO (l ++ [x]) = .vec 1 (l.length + 1) (l.map encInt ++ [.int .i64 x]) := by rw [inO_ne (by simp)]; simp
theorem virt_same {σ : Sig} {v : Nat} (hv : σ v = some (.virt 1)) : upd σ v (.virt 1) = σ := by
  funext q; by_cases h : q = v
  · subst h; simp [upd, hv]
  · simp [upd, h]
def RtsV (σ : Sig) (v : Nat) (l : List Int) : ARes → Sig → Prop := fun r s =>
  ∃ t p, (t = .slice [] .nil ∨ t = .slice [] .full) ∧ (l = [] → p = v) ∧ (l ≠ [] → σ p = none) ∧ r = .ret (inN t p l) ∧ s = upd σ p (inO l)
theorem Rts.toV {σ : Sig} {v : Nat} (hv : σ v = some (.virt 1)) {l : List Int} {r : ARes} {s : Sig} (h : Rts σ l r s) : RtsV σ v l r s := by
  rcases h with ⟨rfl, h | h, rfl⟩ | ⟨h, o, ho, h1, h2⟩
  · exact ⟨_, v, .inl rfl, fun _ => rfl, fun h => absurd rfl h, h, (virt_same hv).symm⟩
  · exact ⟨_, v, .inr rfl, fun _ => rfl, fun h => absurd rfl h, h, (virt_same hv).symm⟩
  · exact ⟨.slice [] .nil, o, .inl rfl, fun e => absurd e h, fun _ => ho, by rw [inN_ne _ _ h]; exact h1, by rw [inO_ne h]; exact h2⟩
theorem inN_1 (t : AV) (p : Nat) (x : Int) : inN t p [x] = .vec p 1 := inN_ne t p (by simp)
theorem inO_1 (x : Int) : inO [x] = .vec 1 1 [.int .i64 x] := inO_ne (by simp)
theorem flat_int1 (x : Int) : flat [.int .i64 x] = [.int .i64 x] := rfl
def curR (g : Aig) (i : Nat) : List Int := g.outs ++ (g.flops.map (·.next)).take i
set_option maxRecDepth 20000 in
set_option maxHeartbeats 4000000 in
theorem rw_roots (g : Aig) (σ : Sig) (hf : g.flops.length ≤ 100000) (ho : g.outs.length ≤ 100000) : ACalls Try.prog 39 [encAig g] σ (Rts σ (rts g)) := by
  refine ACalls.virt (callable_of Try.func39 b39 n39) 1 (fun oV1 hoV1 hnV1 hnV1' => ?_); (try simp only [upd_none, ne_eq, not_and] at hoV1); refine calls_x mixed Try.func39 b39 n39 rfl q39 (by simp) ?_; unfold c39 r39
  have hc := fun τ t hv => (rw_Clone g.outs t τ (by omega)).mono fun r s h => Rts.toV (v := oV1) hv h
  have e0 : curR g 0 = g.outs := by simp [curR]
  have eN : curR g g.flops.length = rts g := by unfold curR rts; rw [List.take_of_length_le (by simp)]
  have hlen : ∀ i, (curR g i).length ≤ 200000 := fun i => by simp only [curR, List.length_append, List.length_take, List.length_map]; omega
  repeat' (first | simp (maxDischargeDepth := 9) -implicitDefEqProofs -dsimp only [go_sem, seval, *] | simp (disch := omega) only [wrap64] | ((with_reducible refine Zv ?_ ?_); focus (first | omega | exact rfl)) | ((with_reducible refine Zu ?_ ?_); focus omega) | ((with_reducible refine Zt (fun oF hoF hnF hnF' => ?_)); (try simp only [upd_none, ne_eq, not_and] at hoF)))
  refine (hc _ _ (by simp (maxDischargeDepth := 9) -implicitDefEqProofs -dsimp only [go_sem, seval, *])).mono ?_
  rintro r s ⟨t, p, ht, hp0, hp1, rfl, rfl⟩
  repeat' (first | simp (maxDischargeDepth := 9) -implicitDefEqProofs -dsimp only [go_sem, seval, *] | simp (disch := omega) only [wrap64] | ((with_reducible refine Zv ?_ ?_); focus (first | omega | exact rfl)) | ((with_reducible refine Zu ?_ ?_); focus omega) | ((with_reducible refine Zt (fun oF hoF hnF hnF' => ?_)); (try simp only [upd_none, ne_eq, not_and] at hoF)))
  refine loop_rule (fun x : Nat × Nat => [(12, some (.int .i64 x.1)), (11, some (.int .i64 g.flops.length)), (10, some (.slice (g.flops.map encFlop) .no)), (3, some (inN t x.2 (curR g x.1)))])
    (fun x => upd (upd σ oV1 (.virt 1)) x.2 (inO (curR g x.1)))
    (fun x => x.1 ≤ g.flops.length ∧ (curR g x.1 = [] → x.2 = oV1) ∧ (curR g x.1 ≠ [] → σ x.2 = none ∧ ¬ x.2 = oV1 ∧ ¬ oV1 = x.2)) (fun x => g.flops.length - x.1) (0, p) ?_ ?_
  · have h2 : g.outs ≠ [] → σ p = none ∧ ¬ p = oV1 ∧ ¬ oV1 = p := fun h => by
      have := hp1 h
      have hne : ¬ p = oV1 := fun e => by subst e; simp [upd] at this
      exact ⟨by simpa [upd, hne] using this, hne, fun e => hne e.symm⟩
    have h3 : 0 ≤ g.flops.length := Nat.zero_le _
    clear eN hc hlen hp1
    (repeat' (first | simp (maxDischargeDepth := 9) -implicitDefEqProofs -dsimp only [go_sem, seval, *] | simp (disch := omega) only [wrap64])) <;> (repeat' refine And.intro ?_ ?_) <;> (first | omega | rfl | assumption | skip)
  · rintro ⟨i, p⟩ ⟨hi, h1, h2⟩
    simp only at hi h1 h2 ⊢
    have hl := hlen i
    clear hp0 hp1 hc hlen e0
    by_cases hlt : i < g.flops.length
    · have hlt' : (i : Int) < g.flops.length := by omega
      have hS : curR g (i + 1) = curR g i ++ [g.flops[i].next] := by
        unfold curR
        rw [take_succ (by simpa using hlt), List.getElem_map, List.append_assoc]
      obtain ⟨L, hL⟩ : ∃ L, curR g i = L := ⟨_, rfl⟩
      rw [hL] at h1 h2 hS hl ⊢
      obtain ⟨f, hf'⟩ : ∃ f, g.flops[i] = f := ⟨_, rfl⟩
      rw [hf'] at hS
      clear eN
      by_cases hK : L = []
      · subst hK
        obtain rfl := h1 rfl
        clear h1 h2
        rw [inN_nil, inO_nil]
        rcases ht with rfl | rfl
        all_goals
          repeat' (first | simp (maxDischargeDepth := 9) -implicitDefEqProofs -dsimp only [go_sem, seval, Nat.zero_add, flat_nil, List.nil_append, flat_agg1, *] | simp (disch := omega) only [wrap64] | ((with_reducible refine Zv ?_ ?_); focus (first | omega | exact rfl)) | ((with_reducible refine Zu ?_ ?_); focus omega) | ((with_reducible refine Zt (fun oF hoF hnF hnF' => ?_)); (try simp only [upd_none, ne_eq, not_and] at hoF)))
          obtain ⟨r1, r2, r3⟩ := id hoF
          have r4 : curR g (i + 1) ≠ [] := by rw [hS]; simp
          refine loop_next _ _ _ _ (i + 1, oF) ⟨?_, ?_, ⟨hlt, fun e => absurd e r4, fun _ => ⟨r3, r2, fun e => r2 e.symm⟩⟩, by simp only; omega⟩
          · rw [hS, List.nil_append, inN_1]; clear hS r4; (repeat' (first | simp (maxDischargeDepth := 9) -implicitDefEqProofs -dsimp only [go_sem, seval, *] | simp (disch := omega) only [wrap64])) <;> (repeat' refine And.intro ?_ ?_) <;> (first | omega | rfl | assumption | skip)
          · rw [hS, List.nil_append, inO_1]; clear hS r4; (repeat' (first | simp (maxDischargeDepth := 9) -implicitDefEqProofs -dsimp only [go_sem, seval, flat_int1, *] | simp (disch := omega) only [wrap64])) <;> (repeat' refine And.intro ?_ ?_) <;> (first | omega | rfl | assumption | skip)
      · obtain ⟨q1, q2, q3⟩ := h2 hK
        clear h1 h2
        rw [inN_ne _ _ hK, inO_ne hK]
        repeat' (first | simp (maxDischargeDepth := 9) -implicitDefEqProofs -dsimp only [go_sem, seval, Nat.zero_add, flat_nil, List.nil_append, flat_agg1, *] | simp (disch := omega) only [wrap64] | ((with_reducible refine Zv ?_ ?_); focus (first | omega | exact rfl)) | ((with_reducible refine Zu ?_ ?_); focus omega) | ((with_reducible refine Zt (fun oF hoF hnF hnF' => ?_)); (try simp only [upd_none, ne_eq, not_and] at hoF)))
        have r4 : curR g (i + 1) ≠ [] := by rw [hS]; simp
        refine loop_next _ _ _ _ (i + 1, p) ⟨?_, ?_, ⟨hlt, fun e => absurd e r4, fun _ => ⟨q1, q2, q3⟩⟩, by simp only; omega⟩
        · rw [hS]; (repeat' (first | simp (maxDischargeDepth := 9) -implicitDefEqProofs -dsimp only [go_sem, seval, inN_app, inO_app, List.length_nil, Nat.zero_add, *] | simp (disch := omega) only [wrap64])) <;> (repeat' refine And.intro ?_ ?_) <;> (first | omega | rfl | assumption | skip)
        · rw [hS]; (repeat' (first | simp (maxDischargeDepth := 9) -implicitDefEqProofs -dsimp only [go_sem, seval, inN_app, inO_app, List.length_nil, Nat.zero_add, flat_int1, *] | simp (disch := omega) only [wrap64])) <;> (repeat' refine And.intro ?_ ?_) <;> (first | omega | rfl | assumption | skip)
    · have hlt' : ¬ (i : Int) < g.flops.length := by omega
      have ei : i = g.flops.length := by omega
      subst ei
      rw [eN] at h1 h2 ⊢
      repeat' (first | simp (maxDischargeDepth := 9) -implicitDefEqProofs -dsimp only [go_sem, seval, *] | simp (disch := omega) only [wrap64] | ((with_reducible refine Zv ?_ ?_); focus (first | omega | exact rfl)) | ((with_reducible refine Zu ?_ ?_); focus omega) | ((with_reducible refine Zt (fun oF hoF hnF hnF' => ?_)); (try simp only [upd_none, ne_eq, not_and] at hoF)))
      by_cases hK : rts g = []
      · rw [hK] at h1 ⊢
        obtain rfl := h1 rfl
        rw [inN_nil, inO_nil]
        refine fin_v t σ (.inl ⟨rfl, ?_, rfl⟩) ?_ ?_
        · rcases ht with rfl | rfl
          · exact .inl rfl
          · exact .inr rfl
        · rcases ht with rfl | rfl
          · simp (maxDischargeDepth := 9) -implicitDefEqProofs -dsimp only [go_sem, seval, *]
          · simp (maxDischargeDepth := 9) -implicitDefEqProofs -dsimp only [go_sem, seval, *]
        · refine subx_of fun q x hq => ?_
          have hqp : ¬ q = p := fun e => by subst e; rw [hoV1] at hq; simp at hq
          simp only [upd, hqp, if_false]; exact hq
      · obtain ⟨q1, q2, q3⟩ := h2 hK
        rw [inN_ne _ _ hK, inO_ne hK]
        refine fin_v (.vec p (rts g).length) (upd σ p (.vec 1 (rts g).length ((rts g).map encInt))) (.inr ⟨hK, p, q1, rfl, rfl⟩) ?_ ?_
        · (repeat' (first | simp (maxDischargeDepth := 9) -implicitDefEqProofs -dsimp only [go_sem, seval, *] | simp (disch := omega) only [wrap64])) <;> (repeat' refine And.intro ?_ ?_) <;> (first | omega | rfl | assumption | skip)
        · refine subx_of fun q x hq => ?_
          by_cases hqp : q = p
          · subst hqp; simpa [upd] using hq
          · have hqv : ¬ q = oV1 := fun e => by subst e; simp [upd, hqp, hoV1] at hq
            simp only [upd, hqp, hqv, if_false] at hq ⊢; exact hq
end Go.Proofs.Ytapnlmhfacoceaa

namespace Fil.Rw
open Abs
open Eqv (moveL)
def opsG (g : Aig) : List Int := g.ands.flatMap fun x => [x.1, x.2]
def cntL (l : List Int) (n : Int) : Nat := (l.filter fun a => decide (a / 2 = n)).length
def lastP (l : List Int) (n : Int) : Bool := l.foldl (fun b a => if a / 2 = n then decide (a % 2 = 0) else b) false
def innM (g : Aig) (n : Int) : Bool := decide (g.first ≤ n) && decide (cntL (opsG g) n + 2 * cntL (rts g) n = 1) && lastP (opsG g) n
def addK (k : Int) (m : List (Int × Int)) (l : List Int) : List (Int × Int) := l.foldl (fun m a => sk m (a / 2) ((gk m (a / 2)).getD 0 + k)) m
def plK (l : List Int) : List (Int × Bool) := l.foldl (fun m a => sk m (a / 2) (decide (a % 2 = 0))) []
def nmK (g : Aig) : List (Int × Int) := addK 2 (addK 1 [] (opsG g)) (rts g)
theorem addK_snoc (k : Int) (m : List (Int × Int)) (l : List Int) (a : Int) : addK k m (l ++ [a]) = sk (addK k m l) (a / 2) ((gk (addK k m l) (a / 2)).getD 0 + k) := by simp [addK]
theorem plK_snoc (l : List Int) (a : Int) : plK (l ++ [a]) = sk (plK l) (a / 2) (decide (a % 2 = 0)) := by simp [plK]
theorem cntL_snoc (l : List Int) (a n : Int) : cntL (l ++ [a]) n = cntL l n + if a / 2 = n then 1 else 0 := by
  simp only [cntL, List.filter_append, List.length_append]
  congr 1
  by_cases h : a / 2 = n <;> simp [h]
theorem lastP_snoc (l : List Int) (a n : Int) : lastP (l ++ [a]) n = if a / 2 = n then decide (a % 2 = 0) else lastP l n := by simp [lastP]
theorem snoc_ind {α : Type} {P : List α → Prop} (h0 : P []) (h1 : ∀ l a, P l → P (l ++ [a])) (l : List α) : P l := by
  have : ∀ m : List α, P m.reverse := fun m => by
    induction m with
    | nil => exact h0
    | cons a m ih => rw [List.reverse_cons]; exact h1 _ _ ih
  have e := this l.reverse
  rwa [List.reverse_reverse] at e
theorem addK_get (k : Int) (m : List (Int × Int)) (l : List Int) (n : Int) : (gk (addK k m l) n).getD 0 = (gk m n).getD 0 + k * cntL l n := by
  induction l using snoc_ind with
  | h0 => simp [addK, cntL]
  | h1 l a ih =>
    rw [addK_snoc, gk_sk, cntL_snoc]
    by_cases h : n = a / 2
    · subst h
      rw [if_pos rfl, if_pos rfl, Option.getD_some, ih]
      simp only [Int.natCast_add, Int.mul_add]; simp; omega
    · have h' : ¬ a / 2 = n := fun e => h e.symm
      rw [if_neg h, if_neg h', ih]; simp
theorem addK_uq (k : Int) {m : List (Int × Int)} (h : Uq m) (l : List Int) : Uq (addK k m l) := by
  induction l using snoc_ind with
  | h0 => exact h
  | h1 l a ih => rw [addK_snoc]; exact ih.sk
theorem plK_get (l : List Int) (n : Int) : (gk (plK l) n).getD false = lastP l n := by
  induction l using snoc_ind with
  | h0 => rfl
  | h1 l a ih =>
    rw [plK_snoc, gk_sk, lastP_snoc]
    by_cases h : n = a / 2
    · subst h; simp
    · have h' : ¬ a / 2 = n := fun e => h e.symm
      rw [if_neg h, if_neg h', ih]
theorem cntL_le (l : List Int) (n : Int) : cntL l n ≤ l.length := List.length_filter_le _ _
theorem opsG_len (g : Aig) : (opsG g).length = 2 * g.ands.length := by
  unfold opsG
  induction g.ands with
  | nil => rfl
  | cons x l ih => simp only [List.flatMap_cons, List.length_append, List.length_cons, List.length_nil] at ih ⊢; omega
theorem uq_get {α : Type} : ∀ {l : List (Int × α)}, Uq l → ∀ {i : Nat} {p : Int × α}, l[i]? = some p → gk l p.1 = some p.2
  | q :: r, h, 0, p, e => by
    simp at e; subst e; simp [gk]
  | q :: r, h, i + 1, p, e => by
    unfold Uq at h
    simp only [List.map_cons, List.nodup_cons] at h
    have e' : r[i]? = some p := by simpa using e
    have hm : p.1 ∈ r.map (·.1) := List.mem_map.2 ⟨p, List.mem_of_getElem? e', rfl⟩
    have hne : ¬ q.1 = p.1 := fun e => h.1 (e ▸ hm)
    simp only [gk, hne, if_false]
    exact uq_get h.2 e'
theorem gk_mem {α : Type} {n : Int} {v : α} : ∀ {l : List (Int × α)}, gk l n = some v → ∃ i : Nat, l[i]? = some (n, v)
  | q :: r, h => by
    unfold gk at h
    by_cases c : q.1 = n
    · rw [if_pos c] at h
      simp only [Option.some.injEq] at h
      exact ⟨0, by simp [← c, ← h]⟩
    · rw [if_neg c] at h
      obtain ⟨i, hi⟩ := gk_mem h
      exact ⟨i + 1, by simpa using hi⟩
theorem nmK_uq (g : Aig) : Uq (nmK g) := addK_uq 2 (addK_uq 1 (by simp [Uq]) _) _
theorem nmK_get (g : Aig) (n : Int) : (gk (nmK g) n).getD 0 = ((cntL (opsG g) n + 2 * cntL (rts g) n : Nat) : Int) := by
  unfold nmK
  rw [addK_get, addK_get]
  simp [gk]
theorem nmK_entry {g : Aig} {i : Nat} {p : Int × Int} (h : (nmK g)[i]? = some p) : p.2 = ((cntL (opsG g) p.1 + 2 * cntL (rts g) p.1 : Nat) : Int) := by
  have := uq_get (nmK_uq g) h
  rw [← nmK_get, this]; rfl
theorem innM_of {g : Aig} {i : Nat} {p : Int × Int} (h : (nmK g)[i]? = some p) : innM g p.1 = (decide (g.first ≤ p.1) && decide (p.2 = 1) && lastP (opsG g) p.1) := by
  rw [nmK_entry h]
  unfold innM
  congr 2
  apply decide_eq_decide.2
  omega
theorem innM_none {g : Aig} {n : Int} (h : gk (nmK g) n = none) : innM g n = false := by
  have := nmK_get g n
  rw [h] at this
  simp only [Option.getD_none] at this
  unfold innM
  have c : ¬ cntL (opsG g) n + 2 * cntL (rts g) n = 1 := by omega
  simp [c]
structure OutI (g : Aig) (seen : List Nat) (o : List (Int × Bool)) : Prop where
  val : ∀ n v, gk o n = some v → v = innM g n
  all : ∀ i ∈ seen, ∀ p, (nmK g)[i]? = some p → gk o p.1 = some (innM g p.1)
theorem out_start (g : Aig) : OutI g [] [] := ⟨fun n v h => by simp [gk] at h, fun i hi => by simp at hi⟩
theorem out_step {g : Aig} {seen : List Nat} {o : List (Int × Bool)} (h : OutI g seen o) {i : Nat} {p : Int × Int} (hp : (nmK g)[i]? = some p) : OutI g (seen ++ [i]) (sk o p.1 (innM g p.1)) := by
  refine ⟨fun n v hk => ?_, fun j hj q hq => ?_⟩
  · rw [gk_sk] at hk
    split at hk
    · rename_i e; simp at hk; rw [← hk, e]
    · exact h.val n v hk
  · rw [gk_sk]
    split
    · rename_i e; rw [e]
    · rename_i e
      rcases List.mem_append.1 hj with r | r
      · exact h.all j r q hq
      · simp at r; subst r
        rw [hp] at hq; simp at hq; subst hq
        exact absurd rfl e
theorem out_done {g : Aig} {seen : List Nat} {o : List (Int × Bool)} (h : OutI g seen o) (hall : ∀ i, i < (nmK g).length → i ∈ seen) (n : Int) : (gk o n).getD false = innM g n := by
  cases hk : gk o n with
  | some v => simp [h.val n v hk]
  | none =>
    cases hm : gk (nmK g) n with
    | none => simp [innM_none hm]
    | some c =>
      obtain ⟨i, hi⟩ := gk_mem hm
      have hlt : i < (nmK g).length := by
        rcases Nat.lt_or_ge i (nmK g).length with h' | h'
        · exact h'
        · rw [List.getElem?_eq_none h'] at hi; simp at hi
      have := h.all i (hall i hlt) _ hi
      simp only at this
      rw [hk] at this; simp at this
def uns (seen : List Nat) : Nat → Nat
  | 0 => 0
  | i + 1 => uns seen i + if i ∈ seen then 0 else 1
theorem uns_add {seen : List Nat} {j : Nat} (hj : j ∉ seen) : ∀ n, uns (seen ++ [j]) n + (if j < n then 1 else 0) = uns seen n
  | 0 => by simp [uns]
  | n + 1 => by
    have ih := uns_add hj n
    unfold uns
    by_cases e : n = j
    · subst e
      have c1 : n ∈ seen ++ [n] := by simp
      have c2 : (if n < n then 1 else 0) = 0 := if_neg (by omega)
      have c3 : (if n < n + 1 then 1 else 0) = 1 := if_pos (by omega)
      rw [if_pos c1, if_neg hj, c3]; rw [c2] at ih; omega
    · have c : (n ∈ seen ++ [j]) ↔ n ∈ seen := by simp [e]
      have c' : (if n ∈ seen ++ [j] then (0 : Nat) else 1) = if n ∈ seen then 0 else 1 := by simp [c]
      rw [c']
      by_cases h1 : j < n
      · have c2 : (if j < n + 1 then 1 else 0) = 1 := if_pos (by omega)
        rw [if_pos h1] at ih; rw [c2]; omega
      · have c2 : (if j < n + 1 then 1 else 0) = 0 := if_neg (by omega)
        rw [if_neg h1] at ih; rw [c2]; omega
theorem ops_take (g : Aig) {i : Nat} (h : i < g.ands.length) : (opsG g).take (2 * i + 1) = (opsG g).take (2 * i) ++ [g.ands[i].1] ∧ (opsG g).take (2 * i + 2) = (opsG g).take (2 * i + 1) ++ [g.ands[i].2] := by
  unfold opsG
  revert i
  induction g.ands with
  | nil => intro i h; simp at h
  | cons x l ih =>
    intro i h
    cases i with
    | zero => simp
    | succ i =>
      have := ih (i := i) (by simpa using h)
      simp only [List.flatMap_cons, List.cons_append, List.nil_append, Nat.mul_add, Nat.mul_one, List.getElem_cons_succ]
      constructor
      · rw [show 2 * i + 2 + 1 = (2 * i + 1) + 1 + 1 by omega, show 2 * i + 2 = (2 * i) + 1 + 1 by omega]
        simp only [List.take_succ_cons, List.cons_append, this.1]
      · rw [show 2 * i + 2 + 2 = (2 * i + 2) + 1 + 1 by omega, show 2 * i + 2 + 1 = (2 * i + 1) + 1 + 1 by omega]
        simp only [List.take_succ_cons, List.cons_append, this.2]
end Fil.Rw

namespace Go.Proofs.Ytapnlmhfacoceaa
open Abs Fil Fil.Rw
open Eqv (moveL)
theorem out_of {P : Program} {f : FuncId} {args : List AV} {σ : Sig} {R R' : ARes → Sig → Prop} (h : ACalls P f args σ R) (hR : ∀ r s, R r s → ∃ v, r = .ret v ∧ fin R' v s) : ACalls P f args σ R' := by
  refine ⟨h.1, fun S K w vals hS hr hs => (h.2 S K w vals hS hr hs).mono fun e w' ⟨K', r, σ', k1, k2, k3, k4⟩ => ?_⟩
  obtain ⟨v, rfl, v0, σ0, ⟨F, hv, hf⟩, hR'⟩ := hR r σ' k4
  obtain ⟨K2, m1, m2, m3⟩ := hv S K' w' hS k2
  refine ⟨K2, .ret v0, σ0, k1.trans m1, m2, ?_, hR'⟩
  cases e with
  | returned x => exact m3 _ _ _ hf k3
  | _ => exact k3.elim
theorem int_all (l : List Int) : ∀ x ∈ l.map encInt, (cellsA x).length = 1 := fun x hx => by
  obtain ⟨a, _, rfl⟩ := List.mem_map.1 hx; rfl
theorem rts_list {P : Program} {f : FuncId} {args : List AV} {σ : Sig} {l : List Int} (h : ACalls P f args σ (Rts σ l)) : ACalls P f args σ (fun r s => r = .ret (.slice (l.map encInt) .no) ∧ s = σ) := by
  refine out_of h fun r s hr => ?_
  rcases hr with ⟨rfl, hv | hv, rfl⟩ | ⟨hne, o, ho, h1, h2⟩
  · refine ⟨_, hv, fin_v (.slice [] .no) s ⟨rfl, rfl⟩ ?_ ?_⟩
    · simp (maxDischargeDepth := 9) -implicitDefEqProofs -dsimp only [go_sem, seval, *]
    · simp (maxDischargeDepth := 9) -implicitDefEqProofs -dsimp only [go_sem, seval, *]
  · refine ⟨_, hv, fin_v (.slice [] .no) s ⟨rfl, rfl⟩ ?_ ?_⟩
    · simp (maxDischargeDepth := 9) -implicitDefEqProofs -dsimp only [go_sem, seval, *]
    · simp (maxDischargeDepth := 9) -implicitDefEqProofs -dsimp only [go_sem, seval, *]
  · refine ⟨_, h1, ?_⟩
    subst h2
    refine fin_frz o (sz := 1) (n := l.length) (cs := l.map encInt) (l := l.map encInt) (v0 := .slice (l.map encInt) .no) (v1 := .slice (l.map encInt) .no) (τ := σ) (by simp [upd]) (flat_ints l) (by simp) (int_all l) (.base _ _ ⟨rfl, .inr rfl⟩) ?_ ?_ ⟨rfl, rfl⟩
    · simp (maxDischargeDepth := 9) -implicitDefEqProofs -dsimp only [go_sem, seval, *]
    · refine subx_of fun q x hq => ?_
      have : ¬ q = o := fun e => by subst e; rw [ho] at hq; simp at hq
      simp only [upd, this, if_false]; exact hq
theorem rw_rootsL (g : Aig) (σ : Sig) (hf : g.flops.length ≤ 100000) (ho : g.outs.length ≤ 100000) : ACalls Try.prog 39 [encAig g] σ (fun r s => r = .ret (.slice ((rts g).map encInt) .no) ∧ s = σ) :=
  rts_list (rw_roots g σ hf ho)
theorem map_int (x : Option Int) : (Option.map (AV.int .i64) x).getD (.int .i64 0) = .int .i64 (x.getD 0) := by cases x <;> rfl
theorem map_bool (x : Option Bool) : (Option.map AV.bool x).getD (.bool false) = .bool (x.getD false) := by cases x <;> rfl
def InnR (σ : Sig) (g : Aig) : ARes → Sig → Prop := fun r s => ∃ q m, σ q = none ∧ r = .ret (.map q) ∧ s = upd σ q (.map true (encK .bool m)) ∧ ∀ n, (gk m n).getD false = innM g n
set_option maxRecDepth 20000 in
set_option maxHeartbeats 4000000 in
theorem rw_inner (o : Nat) (g : Aig) (rest : List AV) (σ : Sig) (hB : σ o = some (.cells (.int .i64 g.ins :: .slice (g.flops.map encFlop) .no :: .slice (g.ands.map encGate) .no :: .slice (g.outs.map encInt) .no :: rest))) (hg : Sml g) :
    ACalls Try.prog 51 [.ptr o 0] σ (InnR σ g) := by
  refine calls_x mixed Try.func51 b51 n51 rfl q51 (by simp) ?_; unfold c51 r51
  have hsm : Small g := check_small hg.wf hg.chk
  have h1 := hg.ins
  have h2 := hg.flops
  have h3 := hg.ands
  have h4 := hg.outs
  have hrt := fun τ => rw_rootsL g τ (by omega) (by omega)
  have hfc := fun τ hB => rw_first o g (.slice (g.ands.map encGate) .no :: .slice (g.outs.map encInt) .no :: rest) τ hB hsm
  have hrl : (rts g).length ≤ 120 := by simp only [rts, List.length_append, List.length_map]; omega
  have hno : ¬ σ o = none := by rw [hB]; simp
  repeat' (first | simp (maxDischargeDepth := 9) -implicitDefEqProofs -dsimp only [go_sem, seval, *] | simp (disch := omega) only [wrap64, tdiv2, and1] | ((with_reducible refine Zv ?_ ?_); focus (first | omega | exact rfl)) | ((with_reducible refine Zu ?_ ?_); focus omega) | ((with_reducible refine Zt (fun oF hoF hnF hnF' => ?_)); (try simp only [upd_none, ne_eq, not_and] at hoF)))
  rename_i oN hoN hnN hnN'
  obtain ⟨oP, eP⟩ : ∃ x, x = oF := ⟨oF, rfl⟩
  subst eP
  have hNo : ¬ o = oN ∧ ¬ oN = o ∧ ¬ o = oP ∧ ¬ oP = o := by
    have e1 := hnN o hno
    have e2 : ¬ o = oP := fun e => by rw [← e] at hoF; exact hno hoF.2
    exact ⟨e1, fun e => e1 e.symm, e2, fun e => e2 e.symm⟩
  refine loop_rule (fun i : Nat => [(22, some (.int .i64 i)), (21, some (.int .i64 g.ands.length)), (20, some (.slice (g.ands.map encGate) .no)), (3, some (.map oN)), (4, some (.map oP)), (0, some (.ptr o 0))])
    (fun i => upd (upd σ oN (.map true (encK (.int .i64) (addK 1 [] ((opsG g).take (2 * i)))))) oP (.map true (encK .bool (plK ((opsG g).take (2 * i))))))
    (fun i => i ≤ g.ands.length) (fun i => g.ands.length - i) 0 ?_ ?_
  · have e0 : addK 1 [] ((opsG g).take 0) = [] := rfl
    have e1 : plK ((opsG g).take 0) = [] := rfl
    (repeat' (first | simp (maxDischargeDepth := 9) -implicitDefEqProofs -dsimp only [go_sem, seval, e0, e1, encK_nil, Nat.mul_zero, *] | simp (disch := omega) only [wrap64, tdiv2, and1])) <;> (repeat' refine And.intro ?_ ?_) <;> (first | omega | rfl | assumption | skip)
    all_goals exact fun h => h
  · intro i hi
    by_cases hlt : i < g.ands.length
    · have hlt' : (i : Int) < g.ands.length := by omega
      have hb := gate_bounds hg hlt
      obtain ⟨t1, t2⟩ := ops_take g hlt
      have hfst : g.first ≤ 200 := by simp only [Aig.first]; omega
      obtain ⟨x0, hx0⟩ : ∃ x, g.ands[i].1 = x := ⟨_, rfl⟩
      obtain ⟨x1, hx1⟩ : ∃ x, g.ands[i].2 = x := ⟨_, rfl⟩
      rw [hx0, hx1] at hb
      rw [hx0] at t1
      rw [hx1] at t2
      have hlo := hg.lo
      repeat' (first | simp (maxDischargeDepth := 9) -implicitDefEqProofs -dsimp only [go_sem, seval, *] | simp (disch := omega) only [wrap64, tdiv2, and1] | ((with_reducible refine Zv ?_ ?_); focus (first | omega | exact rfl)) | ((with_reducible refine Zu ?_ ?_); focus omega) | ((with_reducible refine Zt (fun oF hoF hnF hnF' => ?_)); (try simp only [upd_none, ne_eq, not_and] at hoF)))
      refine loop_rule (fun k : Nat => [(27, some (.int .i64 k)), (26, some (.agg [.int .i64 x0, .int .i64 x1])), (22, some (.int .i64 i)), (21, some (.int .i64 g.ands.length)), (20, some (.slice (g.ands.map encGate) .no)), (3, some (.map oN)), (4, some (.map oP)), (0, some (.ptr o 0))])
        (fun k => upd (upd σ oN (.map true (encK (.int .i64) (addK 1 [] ((opsG g).take (2 * i + k)))))) oP (.map true (encK .bool (plK ((opsG g).take (2 * i + k))))))
        (fun k => k ≤ 2) (fun k => 2 - k) 0 ?_ ?_
      · (repeat' (first | simp (maxDischargeDepth := 9) -implicitDefEqProofs -dsimp only [go_sem, seval, Nat.add_zero, *] | simp (disch := omega) only [wrap64, tdiv2, and1])) <;> (repeat' refine And.intro ?_ ?_) <;> (first | omega | rfl | assumption | skip)
      · intro k hk
        have hc : ∀ n, 0 ≤ (gk (addK 1 [] ((opsG g).take (2 * i + k))) n).getD 0 ∧ (gk (addK 1 [] ((opsG g).take (2 * i + k))) n).getD 0 ≤ 100000 := fun n => by
          rw [addK_get]
          have := cntL_le ((opsG g).take (2 * i + k)) n
          have e := opsG_len g
          simp only [gk, Option.getD_none, List.length_take] at this ⊢
          omega
        by_cases hk2 : k < 2
        · have hk2' : (k : Int) < 2 := by omega
          have hstep : ∃ a, (0 ≤ a ∧ a ≤ 1000) ∧ (opsG g).take (2 * i + (k + 1)) = (opsG g).take (2 * i + k) ++ [a] ∧ ((k = 0 ∧ a = x0) ∨ (k = 1 ∧ a = x1)) := by
            rcases (show k = 0 ∨ k = 1 by omega) with rfl | rfl
            · exact ⟨x0, by omega, t1, .inl ⟨rfl, rfl⟩⟩
            · exact ⟨x1, by omega, t2, .inr ⟨rfl, rfl⟩⟩
          obtain ⟨a, ha, htk, hka⟩ := hstep
          have s1 := addK_snoc 1 [] ((opsG g).take (2 * i + k)) a
          have s2 := plK_snoc ((opsG g).take (2 * i + k)) a
          rw [← htk] at s1 s2
          have hc' := hc (a / 2)
          clear htk hc t1 t2 hb hfc hrt
          rcases hka with ⟨rfl, rfl⟩ | ⟨rfl, rfl⟩
          · have hbe : (a % 2 == 0) = decide (a % 2 = 0) := rfl
            repeat' (first | simp (maxDischargeDepth := 9) -implicitDefEqProofs -dsimp only [go_sem, seval, map_int, *] | simp (disch := omega) only [wrap64, tdiv2, and1] | ((with_reducible refine Zv ?_ ?_); focus (first | omega | exact rfl)) | ((with_reducible refine Zu ?_ ?_); focus omega) | ((with_reducible refine Zt (fun oF hoF hnF hnF' => ?_)); (try simp only [upd_none, ne_eq, not_and] at hoF)))
            refine loop_next _ _ _ _ (0 + 1) ?_; (repeat' (first | simp (maxDischargeDepth := 9) -implicitDefEqProofs -dsimp only [go_sem, seval, *] | simp (disch := omega) only [wrap64, tdiv2, and1])) <;> (repeat' refine And.intro ?_ ?_) <;> (first | omega | rfl | assumption | skip)
          · have hbe : (a % 2 == 0) = decide (a % 2 = 0) := rfl
            repeat' (first | simp (maxDischargeDepth := 9) -implicitDefEqProofs -dsimp only [go_sem, seval, map_int, *] | simp (disch := omega) only [wrap64, tdiv2, and1] | ((with_reducible refine Zv ?_ ?_); focus (first | omega | exact rfl)) | ((with_reducible refine Zu ?_ ?_); focus omega) | ((with_reducible refine Zt (fun oF hoF hnF hnF' => ?_)); (try simp only [upd_none, ne_eq, not_and] at hoF)))
            refine loop_next _ _ _ _ (1 + 1) ?_; (repeat' (first | simp (maxDischargeDepth := 9) -implicitDefEqProofs -dsimp only [go_sem, seval, *] | simp (disch := omega) only [wrap64, tdiv2, and1])) <;> (repeat' refine And.intro ?_ ?_) <;> (first | omega | rfl | assumption | skip)
        · obtain rfl : k = 2 := by omega
          clear hc t1 t2 hb hfc hrt
          repeat' (first | simp (maxDischargeDepth := 9) -implicitDefEqProofs -dsimp only [go_sem, seval, *] | simp (disch := omega) only [wrap64, tdiv2, and1] | ((with_reducible refine Zv ?_ ?_); focus (first | omega | exact rfl)) | ((with_reducible refine Zu ?_ ?_); focus omega) | ((with_reducible refine Zt (fun oF hoF hnF hnF' => ?_)); (try simp only [upd_none, ne_eq, not_and] at hoF)))
          refine loop_next _ _ _ _ (i + 1) ?_; (repeat' (first | simp (maxDischargeDepth := 9) -implicitDefEqProofs -dsimp only [go_sem, seval,  Nat.mul_add, Nat.mul_one, *] | simp (disch := omega) only [wrap64, tdiv2, and1])) <;> (repeat' refine And.intro ?_ ?_) <;> (first | omega | rfl | assumption | skip)
    · have ei : i = g.ands.length := by omega
      subst ei
      have hlt' : ¬ (g.ands.length : Int) < g.ands.length := by omega
      have e0 : (opsG g).take (2 * g.ands.length) = opsG g := List.take_of_length_le (by rw [opsG_len]; exact Nat.le_refl _)
      rw [e0]
      repeat' (first | simp (maxDischargeDepth := 9) -implicitDefEqProofs -dsimp only [go_sem, seval, *] | simp (disch := omega) only [wrap64, tdiv2, and1] | ((with_reducible refine Zv ?_ ?_); focus (first | omega | exact rfl)) | ((with_reducible refine Zu ?_ ?_); focus omega) | ((with_reducible refine Zt (fun oF hoF hnF hnF' => ?_)); (try simp only [upd_none, ne_eq, not_and] at hoF)) | ((with_reducible apply ACalls.one1); (focus ((first | with_reducible refine hrt _) <;> (first | (simp (maxDischargeDepth := 9) -implicitDefEqProofs -dsimp only [go_sem, seval, *]; done) | omega))); (focus (first | trivial | with_reducible exact rfl | (simp (maxDischargeDepth := 9) -implicitDefEqProofs -dsimp only [go_sem, seval]; done)))))
      refine loop_rule (fun j : Nat => [(49, some (.int .i64 j)), (48, some (.int .i64 (rts g).length)), (47, some (.slice ((rts g).map encInt) .no)), (3, some (.map oN)), (4, some (.map oP)), (0, some (.ptr o 0))])
        (fun j => upd (upd σ oN (.map true (encK (.int .i64) (addK 2 (addK 1 [] (opsG g)) ((rts g).take j))))) oP (.map true (encK .bool (plK (opsG g)))))
        (fun j => j ≤ (rts g).length) (fun j => (rts g).length - j) 0 ?_ ?_
      · have e1 : addK 2 (addK 1 [] (opsG g)) ((rts g).take 0) = addK 1 [] (opsG g) := rfl
        (repeat' (first | simp (maxDischargeDepth := 9) -implicitDefEqProofs -dsimp only [go_sem, seval, e1, *] | simp (disch := omega) only [wrap64, tdiv2, and1])) <;> (repeat' refine And.intro ?_ ?_) <;> (first | omega | rfl | assumption | skip)
        all_goals exact fun h => h
      · intro j hj
        have hc : ∀ n, 0 ≤ (gk (addK 2 (addK 1 [] (opsG g)) ((rts g).take j)) n).getD 0 ∧ (gk (addK 2 (addK 1 [] (opsG g)) ((rts g).take j)) n).getD 0 ≤ 100000 := fun n => by
          rw [addK_get, addK_get]
          have q1 := cntL_le (opsG g) n
          have q2 := cntL_le ((rts g).take j) n
          have e := opsG_len g
          simp only [gk, Option.getD_none, List.length_take] at q1 q2 ⊢
          omega
        by_cases hjl : j < (rts g).length
        · have hjl' : (j : Int) < (rts g).length := by omega
          have hb := root_lit hg (List.getElem_mem hjl)
          have hcn : g.count ≤ 400 := by simp only [Aig.count]; omega
          have htk := take_succ (l := rts g) (i := j) hjl
          obtain ⟨a, ha⟩ : ∃ a, (rts g)[j] = a := ⟨_, rfl⟩
          rw [ha] at hb htk
          have s1 := addK_snoc 2 (addK 1 [] (opsG g)) ((rts g).take j) a
          rw [← htk] at s1
          have hc' := hc (a / 2)
          clear htk hc hrt hfc
          repeat' (first | simp (maxDischargeDepth := 9) -implicitDefEqProofs -dsimp only [go_sem, seval, map_int, *] | simp (disch := omega) only [wrap64, tdiv2, and1] | ((with_reducible refine Zv ?_ ?_); focus (first | omega | exact rfl)) | ((with_reducible refine Zu ?_ ?_); focus omega) | ((with_reducible refine Zt (fun oF hoF hnF hnF' => ?_)); (try simp only [upd_none, ne_eq, not_and] at hoF)))
          refine loop_next _ _ _ _ (j + 1) ?_; (repeat' (first | simp (maxDischargeDepth := 9) -implicitDefEqProofs -dsimp only [go_sem, seval, *] | simp (disch := omega) only [wrap64, tdiv2, and1])) <;> (repeat' refine And.intro ?_ ?_) <;> (first | omega | rfl | assumption | skip)
        · have ej : j = (rts g).length := by omega
          subst ej
          have hjl' : ¬ ((rts g).length : Int) < (rts g).length := by omega
          have e1 : addK 2 (addK 1 [] (opsG g)) ((rts g).take (rts g).length) = nmK g := by rw [List.take_length]; rfl
          rw [e1]
          clear hc hrt
          have hoP : (¬ oP = oN ∧ σ oP = none) ∧ ¬ oN = oP := ⟨hoF, fun e => hoF.1 e.symm⟩
          clear hoF hnF hnF'
          repeat' (first | simp (maxDischargeDepth := 9) -implicitDefEqProofs -dsimp only [go_sem, seval, *] | simp (disch := omega) only [wrap64, tdiv2, and1] | ((with_reducible refine Zv ?_ ?_); focus (first | omega | exact rfl)) | ((with_reducible refine Zu ?_ ?_); focus omega) | ((with_reducible refine Zt (fun oF hoF hnF hnF' => ?_)); (try simp only [upd_none, ne_eq, not_and] at hoF)))
          rename_i oO hnO hnO' hoO
          obtain ⟨oI, eI⟩ : ∃ x, x = oF := ⟨oF, rfl⟩
          subst eI
          have hI : ¬ o = oO ∧ ¬ oO = o ∧ ¬ o = oI ∧ ¬ oI = o := by
            have e1 : ¬ o = oO := fun e => by rw [← e] at hoO; exact hno hoO.2.2
            have e2 : ¬ o = oI := fun e => by rw [← e] at hoF; exact hno hoF.2.2.2
            exact ⟨e1, fun e => e1 e.symm, e2, fun e => e2 e.symm⟩
          obtain ⟨a1, a2, a3⟩ := id hoO
          obtain ⟨b1, b2, b3, b4⟩ := id hoF
          have hne : ¬ oO = oI ∧ ¬ oP = oI ∧ ¬ oN = oI ∧ ¬ oP = oO ∧ ¬ oN = oO := ⟨fun e => b1 e.symm, fun e => b2 e.symm, fun e => b3 e.symm, fun e => a1 e.symm, fun e => a2 e.symm⟩
          refine loop_rule (fun x : List Nat × List (Int × Bool) => [(61, some (.ptr oI 0)), (11, some (.map oO)), (0, some (.ptr o 0)), (4, some (.map oP))])
            (fun x => upd (upd (upd (upd σ oN (.map true (encK (.int .i64) (nmK g)))) oP (.map true (encK .bool (plK (opsG g))))) oO (.map true (encK .bool x.2))) oI (.iter oN (nmK g).length x.1))
            (fun x => OutI g x.1 x.2) (fun x => uns x.1 (nmK g).length) ([], []) ?_ ?_
          · have i1 := out_start g
            (repeat' (first | simp (maxDischargeDepth := 9) -implicitDefEqProofs -dsimp only [go_sem, seval, encK_nil, *] | simp (disch := omega) only [wrap64, tdiv2, and1])) <;> (repeat' refine And.intro ?_ ?_) <;> (first | omega | rfl | assumption | skip)
            all_goals exact fun h => h
          · rintro ⟨seen, m⟩ hO
            simp only at hO ⊢
            repeat' (first | simp (maxDischargeDepth := 9) -implicitDefEqProofs -dsimp only [go_sem, seval, *] | simp (disch := omega) only [wrap64, tdiv2, and1] | ((with_reducible refine Zv ?_ ?_); focus (first | omega | exact rfl)) | ((with_reducible refine Zu ?_ ?_); focus omega) | ((with_reducible refine Zt (fun oF hoF hnF hnF' => ?_)); (try simp only [upd_none, ne_eq, not_and] at hoF)))
            refine ⟨fun hall => ?_, fun i hi hn => ?_⟩
            · rw [encK_len] at hall
              have hd := out_done hO hall
              clear hall hO
              repeat' (first | simp (maxDischargeDepth := 9) -implicitDefEqProofs -dsimp only [go_sem, seval, *] | simp (disch := omega) only [wrap64, tdiv2, and1] | ((with_reducible refine Zv ?_ ?_); focus (first | omega | exact rfl)) | ((with_reducible refine Zu ?_ ?_); focus omega) | ((with_reducible refine Zt (fun oF hoF hnF hnF' => ?_)); (try simp only [upd_none, ne_eq, not_and] at hoF)))
              refine fin_v (.map oO) (upd σ oO (.map true (encK .bool m))) ⟨oO, m, a3, rfl, rfl, hd⟩ ?_ ?_
              · simp (maxDischargeDepth := 9) -implicitDefEqProofs -dsimp only [go_sem, seval, *]
              · clear hd
                (repeat' (first | simp (maxDischargeDepth := 9) -implicitDefEqProofs -dsimp only [go_sem, seval, *] | simp (disch := omega) only [wrap64, tdiv2, and1])) <;> (repeat' refine And.intro ?_ ?_) <;> (first | omega | rfl | assumption | skip)
                all_goals exact fun h => h
            · rw [encK_len] at hi
              obtain ⟨p, hp⟩ : ∃ p, (nmK g)[i] = p := ⟨_, rfl⟩
              have hp' : (nmK g)[i]? = some p := by rw [List.getElem?_eq_getElem hi, hp]
              have he1 : ((encK (.int .i64) (nmK g))[i]'(by rw [encK_len]; exact hi)).1 = .int .i64 p.1 := by simp [encK, hp]
              have he2 : ((encK (.int .i64) (nmK g))[i]'(by rw [encK_len]; exact hi)).2 = .int .i64 p.2 := by simp [encK, hp]
              have he3 : (encK (.int .i64) (nmK g))[i]? = some (.int .i64 p.1, .int .i64 p.2) := by simp [encK, hp']
              have hst := out_step hO hp'
              have hv := innM_of hp'
              have hu := uns_add hn (nmK g).length
              rw [if_pos hi] at hu
              have hm1 : uns (seen ++ [i]) (nmK g).length < uns seen (nmK g).length := by omega
              rw [← plK_get] at hv
              rw [he1, he2]
              clear he1 he2 hu hO hp hp' hn hi
              by_cases d1 : g.first ≤ p.1
              · by_cases d2 : p.2 = 1
                · have hv' : innM g p.1 = (gk (plK (opsG g)) p.1).getD false := by rw [hv]; simp [d1, d2]
                  rw [hv'] at hst
                  clear hv hv'
                  repeat' (first | simp (maxDischargeDepth := 9) -implicitDefEqProofs -dsimp only [go_sem, seval, ge_iff_le, List.getLast?_concat, Option.bind_some, map_bool, *] | simp (disch := omega) only [wrap64, tdiv2, and1] | ((with_reducible refine Zv ?_ ?_); focus (first | omega | exact rfl)) | ((with_reducible refine Zu ?_ ?_); focus omega) | ((with_reducible refine Zt (fun oF hoF hnF hnF' => ?_)); (try simp only [upd_none, ne_eq, not_and] at hoF)) | ((with_reducible apply ACalls.one1); (focus ((first | with_reducible refine hfc _ ?_) <;> (first | (simp (maxDischargeDepth := 9) -implicitDefEqProofs -dsimp only [go_sem, seval, *]; done) | omega))); (focus (first | trivial | with_reducible exact rfl | (simp (maxDischargeDepth := 9) -implicitDefEqProofs -dsimp only [go_sem, seval]; done)))))
                  refine loop_next _ _ _ _ (seen ++ [i], _) ⟨?_, ?_, hst, hm1⟩
                  · (repeat' (first | simp (maxDischargeDepth := 9) -implicitDefEqProofs -dsimp only [go_sem, seval, *] | simp (disch := omega) only [wrap64, tdiv2, and1])) <;> (repeat' refine And.intro ?_ ?_) <;> (first | omega | rfl | assumption | skip)
                  · (repeat' (first | simp (maxDischargeDepth := 9) -implicitDefEqProofs -dsimp only [go_sem, seval, *] | simp (disch := omega) only [wrap64, tdiv2, and1])) <;> (repeat' refine And.intro ?_ ?_) <;> (first | omega | rfl | assumption | skip)
                    all_goals exact fun h => h
                · have d3 : (p.2 == 1) = false := by simpa using d2
                  have hv' : innM g p.1 = false := by rw [hv]; simp [d2]
                  rw [hv'] at hst
                  clear hv hv'
                  repeat' (first | simp (maxDischargeDepth := 9) -implicitDefEqProofs -dsimp only [go_sem, seval, ge_iff_le, List.getLast?_concat, Option.bind_some, map_bool, *] | simp (disch := omega) only [wrap64, tdiv2, and1] | ((with_reducible refine Zv ?_ ?_); focus (first | omega | exact rfl)) | ((with_reducible refine Zu ?_ ?_); focus omega) | ((with_reducible refine Zt (fun oF hoF hnF hnF' => ?_)); (try simp only [upd_none, ne_eq, not_and] at hoF)) | ((with_reducible apply ACalls.one1); (focus ((first | with_reducible refine hfc _ ?_) <;> (first | (simp (maxDischargeDepth := 9) -implicitDefEqProofs -dsimp only [go_sem, seval, *]; done) | omega))); (focus (first | trivial | with_reducible exact rfl | (simp (maxDischargeDepth := 9) -implicitDefEqProofs -dsimp only [go_sem, seval]; done)))))
                  refine loop_next _ _ _ _ (seen ++ [i], _) ⟨?_, ?_, hst, hm1⟩
                  · (repeat' (first | simp (maxDischargeDepth := 9) -implicitDefEqProofs -dsimp only [go_sem, seval, *] | simp (disch := omega) only [wrap64, tdiv2, and1])) <;> (repeat' refine And.intro ?_ ?_) <;> (first | omega | rfl | assumption | skip)
                  · (repeat' (first | simp (maxDischargeDepth := 9) -implicitDefEqProofs -dsimp only [go_sem, seval, *] | simp (disch := omega) only [wrap64, tdiv2, and1])) <;> (repeat' refine And.intro ?_ ?_) <;> (first | omega | rfl | assumption | skip)
                    all_goals exact fun h => h
              · have hv' : innM g p.1 = false := by rw [hv]; simp [d1]
                rw [hv'] at hst
                clear hv hv'
                repeat' (first | simp (maxDischargeDepth := 9) -implicitDefEqProofs -dsimp only [go_sem, seval, ge_iff_le, List.getLast?_concat, Option.bind_some, map_bool, *] | simp (disch := omega) only [wrap64, tdiv2, and1] | ((with_reducible refine Zv ?_ ?_); focus (first | omega | exact rfl)) | ((with_reducible refine Zu ?_ ?_); focus omega) | ((with_reducible refine Zt (fun oF hoF hnF hnF' => ?_)); (try simp only [upd_none, ne_eq, not_and] at hoF)) | ((with_reducible apply ACalls.one1); (focus ((first | with_reducible refine hfc _ ?_) <;> (first | (simp (maxDischargeDepth := 9) -implicitDefEqProofs -dsimp only [go_sem, seval, *]; done) | omega))); (focus (first | trivial | with_reducible exact rfl | (simp (maxDischargeDepth := 9) -implicitDefEqProofs -dsimp only [go_sem, seval]; done)))))
                refine loop_next _ _ _ _ (seen ++ [i], _) ⟨?_, ?_, hst, hm1⟩
                · (repeat' (first | simp (maxDischargeDepth := 9) -implicitDefEqProofs -dsimp only [go_sem, seval, *] | simp (disch := omega) only [wrap64, tdiv2, and1])) <;> (repeat' refine And.intro ?_ ?_) <;> (first | omega | rfl | assumption | skip)
                · (repeat' (first | simp (maxDischargeDepth := 9) -implicitDefEqProofs -dsimp only [go_sem, seval, *] | simp (disch := omega) only [wrap64, tdiv2, and1])) <;> (repeat' refine And.intro ?_ ?_) <;> (first | omega | rfl | assumption | skip)
                  all_goals exact fun h => h
end Go.Proofs.Ytapnlmhfacoceaa

namespace Go.Proofs.Ytapnlmhfacoceaa
open Abs Fil Fil.Rw
open Go.Shelf Go.RowKit Go.Lib Go.Sort
def ren23 : Ren where
  f := fun x => match x with
    | 23 => 75
    | n => n
  t := fun x => match x with
    | 22 => 24
    | 3 => 3
    | 4 => 4
    | 0 => 0
    | n => n
  g := fun x => x
theorem body23 : Try.f75 = Body2.n23 ren23 := by kernel_rfl
theorem lays23 : Lays2.n23 Try.prog ren23 :=
  { mixed := by kernel_rfl, f23 := Eq.trans Try.func75 (congrArg some body23),
    t0 := Try.underlying0, a0 := Try.isAgg0, z0 := Try.sizeOf0, v0 := Try.zeroValue0, t3 := Try.underlying3,
    a3 := Try.isAgg3, z3 := Try.sizeOf3, v3 := Try.zeroValue3, t4 := Try.underlying4, a4 := Try.isAgg4, z4 := Try.sizeOf4,
    v4 := Try.zeroValue4, t22 := Try.underlying24, a22 := Try.isAgg24, z22 := Try.sizeOf24, v22 := Try.zeroValue24,
    i3 := by kernel_rfl }
theorem relL_ints {K : Gh} (X : List Int) : RelL K (X.map encInt) (X.map (Value.int .i64)) := ⟨by simp, fun i h1 h2 => by
  simp only [List.getElem_map]; exact .int _ _⟩
theorem callable75 : callable Try.prog 75 = true := by
  simp only [callable, lays23.f23]
  rfl
set_option maxRecDepth 20000 in
theorem rw_Delete (o N i : Nat) (l j : List Int) (V : AV) (σ : Sig) (hσ : σ o = some (.vec 1 N (l.map encInt ++ j.map encInt))) (hN : N = l.length + j.length) (hV : (V = .vec o N ∧ j = []) ∨ V = .pre o l.length N) (hi : i < l.length) :
    ACalls Try.prog 75 [V, .int .i64 i, .int .i64 (i + 1)] σ
      (fun r s => r = .ret (.pre o (l.length - 1) N) ∧ s = upd σ o (.vec 1 N ((l.eraseIdx i).map encInt ++ ((0 :: j).map encInt)))) := by
  refine ⟨callable75, fun S K w vals hS hr hs => ?_⟩
  obtain ⟨vs⟩ := vals
  obtain ⟨hl, hrel⟩ := hr
  simp only [List.length_cons, List.length_nil] at hl
  match vs, hl with
  | [v0, v1, v2], _ =>
    have r0 := hrel 0 (by simp) (by simp)
    have r1 := hrel 1 (by simp) (by simp)
    have r2 := hrel 2 (by simp) (by simp)
    simp only [List.getElem_cons_zero, List.getElem_cons_succ] at r0 r1 r2
    have e1 := rel_int r1
    have e2 := rel_int r2
    subst e1 e2
    have hat : ∃ b cap, v0 = .slice (some ⟨b, 0, none⟩) l.length cap ∧ K.own o = some (.vec b cap 1 N) ∧ (N ≤ cap ∧ ((1 : Nat) = 1 → cap ≤ 9223372036854775807)) ∧ (l.map encInt ++ j.map encInt).length = N * 1 ∧ K.base.heap.size ≤ b ∧ (∃ c el, w.heap[b]? = some (.cells c el (0, 0)) ∧ c.size = cap * 1 ∧ RelC K (l.map encInt ++ j.map encInt) c) ∧ ∀ i, K.claim b i = none := by
      rcases hV with ⟨rfl, rfl⟩ | rfl
      · obtain rfl : N = l.length := by simpa using hN
        exact vec_at hs hσ r0
      · obtain ⟨b, cap, q1, _, q2⟩ := pre_at hs hσ r0
        exact ⟨b, cap, q1, q2⟩
    obtain ⟨b, cap, rfl, hown, hcap, hlen, hbase, ⟨c, el, hc1, hc2, hc3⟩, hno⟩ := hat
    have hcell : ∀ k, k < l.length → w.cell? ⟨b, 0 + k, none⟩ = some (.int .i64 (l.getD k 0)) := fun k hk => by
      have hk2 : k < c.size := by omega
      have hk1 : k < (l.map encInt ++ j.map encInt).length := by simp; omega
      have := rel_int (K := K) (k := .i64) (n := l.getD k 0) (v := c[k]) (by
        have h := (hc3.2 k hk1 hk2).1
        rw [List.getElem_append_left (by simpa using hk)] at h
        simpa [List.getD_eq_getElem?_getD, hk] using h)
      simp [World.cell?, hc1, hk2, this]
    have hfz : ∀ k, k < l.length → w.frozen? ⟨b, 0 + k, none⟩ = false := fun k hk => by simp [World.frozen?, hc1]
    have hcall := Any.slices_Delete_int_cells lays23 b 0 l.length cap i (i + 1) l w (Nat.le_refl _) (by omega) (hcap.2 rfl) (by omega) (by omega) hcell hfz
    refine hcall.mono ?_
    rintro e w' ⟨rfl, q, rfl⟩
    have hnews : List.take i (List.take l.length l) ++ List.drop (i + 1) (List.take l.length l) ++ List.replicate (i + 1 - i) 0 = l.eraseIdx i ++ [0] := by
      rw [List.take_length, List.eraseIdx_eq_take_drop_succ, show i + 1 - i = 1 by omega]; rfl
    have hel : (l.eraseIdx i ++ [0]).length = l.length := by
      rw [List.length_append, List.length_eraseIdx, if_pos hi]; simp; omega
    rw [hnews]
    have hone : ∀ v ∈ (l.eraseIdx i ++ [0]).map (Value.int .i64), v.oneCell' = true := fun v hv => by
      obtain ⟨x, _, rfl⟩ := List.mem_map.1 hv; rfl
    have hlc : (l.eraseIdx i ++ [0]).length ≤ c.size := by rw [hel]; omega
    have hcs : (w.drewN q).heap[b]? = some (.cells c el (0, 0)) := hc1
    have e1 := run_storeCells_at Try.prog b 0 el ((l.eraseIdx i ++ [0]).map (Value.int .i64)) 0 c (w.drewN q) hcs (by simpa using hlc) hone
    have e2 := run_storeCells_cells (P := Try.prog) b 0 ((l.eraseIdx i ++ [0]).map (Value.int .i64)) 0 (w.drewN q) (fun k hk => by
      have hk' : k < c.size := by rw [List.length_map] at hk; omega
      simp [World.cell?, hc1, hk']) (fun k hk => by simp [World.frozen?, hc1]) hone
    simp only [Nat.add_zero] at e1 e2
    have e3 := e1.symm.trans e2
    simp only [Result.ok.injEq, true_and] at e3
    rw [← e3]
    have hs' : Sat K σ (w.drewN q) := hs.same rfl rfl rfl rfl
    have htl : c.toList.length = c.size := by simp
    have hd : RelL K (j.map encInt) ((c.toList.drop l.length).take j.length) := ⟨by
      rw [List.length_map, List.length_take, List.length_drop]; omega, fun k k1 k2 => by
      have q1 : l.length + k < (l.map encInt ++ j.map encInt).length := by
        rw [List.length_append, List.length_map]; rw [List.length_map] at k1; simp; omega
      have q2 : l.length + k < c.size := by rw [List.length_map] at k1; omega
      have h := (hc3.2 (l.length + k) q1 q2).1
      rw [List.getElem_append_right (by simp)] at h
      simpa using h⟩
    have hj1 : ∀ u ∈ (c.toList.drop l.length).take j.length, u.oneCell' = true := fun u hu => by
      obtain ⟨k, hk, rfl⟩ := List.getElem_of_mem hu
      have hk2 : k < j.length := by rw [← List.length_map (f := encInt), hd.1]; exact hk
      have q1 : l.length + k < (l.map encInt ++ j.map encInt).length := by rw [List.length_append, List.length_map, List.length_map]; omega
      have h := (hc3.2 (l.length + k) q1 (by omega)).2
      simpa using h
    have hrel := relC_of (Z := (c.toList.drop l.length).drop j.length) ((relL_ints (K := K) (l.eraseIdx i ++ [0])).append hd) (fun u hu => by
      rcases List.mem_append.1 hu with h | h
      · exact hone u h
      · exact hj1 u h)
    rw [List.append_assoc, List.take_append_drop] at hrel
    have hlen2 : (List.map (Value.int IntKind.i64) (l.eraseIdx i ++ [0])).length = l.length := by rw [List.length_map, hel]
    have hc' : (List.take 0 c.toList ++ List.map (Value.int IntKind.i64) (l.eraseIdx i ++ [0]) ++ List.drop (0 + (List.map (Value.int IntKind.i64) (l.eraseIdx i ++ [0])).length) c.toList) = List.map (Value.int IntKind.i64) (l.eraseIdx i ++ [0]) ++ c.toList.drop l.length := by
      rw [hlen2]; simp
    rw [hc']
    have hce : (l.eraseIdx i ++ [0]).map encInt ++ j.map encInt = (l.eraseIdx i).map encInt ++ ((0 :: j).map encInt) := by simp
    rw [hce] at hrel
    have hsz : (List.map (Value.int IntKind.i64) (l.eraseIdx i ++ [0]) ++ c.toList.drop l.length).toArray.size = cap * 1 := by
      rw [List.size_toArray, List.length_append, hlen2, List.length_drop]; omega
    have hlen3 : ((l.eraseIdx i).map encInt ++ ((0 :: j).map encInt)).length = N * 1 := by
      rw [← hce, List.length_append, List.length_map, hel, List.length_map]; omega
    refine ⟨K, .ret (.pre o (l.length - 1) N), _, Gh.leS.refl K, ?_, ?_, rfl, rfl⟩
    · exact Sat.setRow (e := .vec b cap 1 N) hs' hσ hown rfl _ hcs hno ⟨rfl, rfl, hlen3, hcap, hbase, ⟨_, el, setRow_heap _ b c _ el (0, 0) hcs, hsz, hrel.2⟩, hno⟩
    · have e5 : l.length - (i + 1 - i) = l.length - 1 := by omega
      rw [e5]
      exact .pre o (l.length - 1) N b cap ⟨b, cap, 1, N, .inl hown, Nat.le_refl N, fun _ => ⟨rfl, rfl⟩⟩ (by omega) hcap.1
end Go.Proofs.Ytapnlmhfacoceaa

namespace Fil.Rw
open Abs
open Eqv (moveL)
def lstAt (lev l : List Int) : Nat → Nat
  | 0 => 0
  | i + 1 => if lev.getD (l.getD i 0 / 2).toNat 0 < lev.getD (l.getD (lstAt lev l i) 0 / 2).toNat 0 then i else lstAt lev l i
def lst (lev l : List Int) : Nat := lstAt lev l l.length
theorem lstAt_le (lev l : List Int) : ∀ i, lstAt lev l i ≤ i - 1
  | 0 => Nat.le_refl _
  | i + 1 => by
    have := lstAt_le lev l i
    unfold lstAt
    split <;> omega
theorem lst_lt {lev l : List Int} (h : 0 < l.length) : lst lev l < l.length := by
  have := lstAt_le lev l l.length
  unfold lst; omega
def pairJ (lev l : List Int) : Int × Int :=
  let i := lst lev l
  let rest := l.eraseIdx i
  let k := lst lev rest
  if k < i then (rest.getD k 0, l.getD i 0) else (l.getD i 0, rest.getD k 0)
def restJ (lev l : List Int) : List Int := (l.eraseIdx (lst lev l)).eraseIdx (lst lev (l.eraseIdx (lst lev l)))
def stepJ (b : B) (l : List Int) : B × List Int :=
  let r := andB b (pairJ b.lev l).1 (pairJ b.lev l).2
  (r.1, restJ b.lev l ++ [r.2])
def joinB : Nat → B → List Int → B × Int
  | 0, b, l => (b, l.getD 0 0)
  | f + 1, b, l => if l.length ≤ 1 then (b, l.getD 0 0) else joinB f (stepJ b l).1 (stepJ b l).2
theorem erase_len {l : List Int} {i : Nat} (h : i < l.length) : (l.eraseIdx i).length = l.length - 1 := by rw [List.length_eraseIdx, if_pos h]
theorem mem_erase {l : List Int} {i : Nat} {a : Int} (h : a ∈ l.eraseIdx i) : a ∈ l := List.mem_of_mem_eraseIdx h
theorem getD_mem {l : List Int} {i : Nat} (h : i < l.length) : l.getD i 0 ∈ l := by
  rw [List.getD_eq_getElem?_getD, List.getElem?_eq_getElem h]; exact List.getElem_mem h
structure JI (b : B) (l : List Int) : Prop extends Bd b where
  lits : ∀ a ∈ l, b.g.lit a = true
  ne : 0 < l.length
  cnt : b.g.count + l.length ≤ 2000
theorem JI.idx {b : B} {l : List Int} (h : JI b l) {a : Int} (ha : a ∈ l) : 0 ≤ a ∧ (a / 2).toNat < b.lev.length ∧ a ≤ 10000 := by
  have := litN_iff.1 (h.lits a ha)
  have hl := h.toBd.llen
  have := h.cnt
  omega
theorem pairJ_mem {b : B} {l : List Int} (h2 : 2 ≤ l.length) : (pairJ b.lev l).1 ∈ l ∧ (pairJ b.lev l).2 ∈ l := by
  have q1 := lst_lt (lev := b.lev) (show 0 < l.length by omega)
  have q2 := erase_len q1
  have q3 := lst_lt (lev := b.lev) (show 0 < (l.eraseIdx (lst b.lev l)).length by omega)
  unfold pairJ
  simp only
  split
  · exact ⟨mem_erase (getD_mem q3), getD_mem q1⟩
  · exact ⟨getD_mem q1, mem_erase (getD_mem q3)⟩
theorem restJ_len {b : B} {l : List Int} (h2 : 2 ≤ l.length) : (restJ b.lev l).length = l.length - 2 := by
  have q1 := lst_lt (lev := b.lev) (show 0 < l.length by omega)
  have q2 := erase_len q1
  have q3 := lst_lt (lev := b.lev) (show 0 < (l.eraseIdx (lst b.lev l)).length by omega)
  unfold restJ
  rw [erase_len q3]; omega
theorem JI.step {b : B} {l : List Int} (h : JI b l) (h2 : 2 ≤ l.length) : (b.g.And (pairJ b.lev l).1 (pairJ b.lev l).2).2.2 = 0 ∧ JI (stepJ b l).1 (stepJ b l).2 ∧ (stepJ b l).2.length = l.length - 1 ∧ Ext b.g (stepJ b l).1.g ∧ (stepJ b l).1.lits = b.lits ∧ (stepJ b l).1.g.ands.length ≤ b.g.ands.length + 1 := by
  obtain ⟨m1, m2⟩ := pairJ_mem (b := b) h2
  have hc := h.cnt
  obtain ⟨k0, k1, k2, k3, k4, k5⟩ := andB_ok h.toBd (h.lits _ m1) (h.lits _ m2) (by omega)
  have hrl := restJ_len (b := b) h2
  have hlen : (stepJ b l).2.length = l.length - 1 := by unfold stepJ; simp only [List.length_append, hrl, List.length_cons, List.length_nil]; omega
  refine ⟨k0, ⟨k1, fun a ha => ?_, by omega, ?_⟩, hlen, k3, k5, k4⟩
  · unfold stepJ at ha
    rcases List.mem_append.1 ha with q | q
    · exact k3.lit (h.lits a (mem_erase (mem_erase q)))
    · simp at q; subst q; exact k2
  · rw [hlen]
    have e : (stepJ b l).1.g.count ≤ b.g.count + 1 := by
      show (andB b _ _).1.g.count ≤ _
      simp only [Aig.count, k3.ins, k3.flops]; omega
    omega
theorem joinB_step {b : B} {l : List Int} (h : JI b l) (h2 : 2 ≤ l.length) : joinB l.length b l = joinB (stepJ b l).2.length (stepJ b l).1 (stepJ b l).2 := by
  rw [(h.step h2).2.2.1]
  obtain ⟨f, hf⟩ : ∃ f, l.length = f + 1 := ⟨l.length - 1, by omega⟩
  rw [hf, show f + 1 - 1 = f by omega]
  conv => lhs; unfold joinB
  rw [if_neg (by omega)]
theorem joinB_one {b : B} {l : List Int} (h : l.length = 1) : joinB l.length b l = (b, l.getD 0 0) := by
  rw [h]; unfold joinB; rw [if_pos (by omega)]
theorem JI.join {b : B} {l : List Int} (h : JI b l) : Bd (joinB l.length b l).1 ∧ (joinB l.length b l).1.g.lit (joinB l.length b l).2 = true ∧ Ext b.g (joinB l.length b l).1.g ∧ (joinB l.length b l).1.lits = b.lits ∧ (joinB l.length b l).1.g.ands.length + 1 ≤ b.g.ands.length + l.length := by
  obtain ⟨n, hn⟩ : ∃ n, l.length = n := ⟨_, rfl⟩
  induction n generalizing b l with
  | zero => have := h.ne; omega
  | succ n ih =>
    by_cases h2 : 2 ≤ l.length
    · obtain ⟨_, k1, k2, k3, k4, k5⟩ := h.step h2
      rw [joinB_step h h2]
      obtain ⟨m1, m2, m3, m4, m5⟩ := ih k1 (by omega)
      exact ⟨m1, m2, k3.trans m3, m4.trans k4, by omega⟩
    · have h1 : l.length = 1 := by have := h.ne; omega
      rw [joinB_one h1]
      exact ⟨h.toBd, h.lits _ (getD_mem (by omega)), .refl _, rfl, by simp only; omega⟩
end Fil.Rw

