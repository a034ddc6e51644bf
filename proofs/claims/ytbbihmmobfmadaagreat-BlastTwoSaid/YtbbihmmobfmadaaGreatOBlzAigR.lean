/- aig: contracts of the document's answer. -/
import Derived.Test.YtbbihmmobfmadaaGreatOBlzC2
set_option linter.unusedSimpArgs false
set_option linter.unusedVariables false
namespace Fil
open Abs
structure Flop where
  next : Int
  init : Bool
  deriving DecidableEq, Repr
structure Aig where
  ins : Int
  flops : List Flop
  ands : List (Int × Int)
  outs : List Int
  deriving DecidableEq, Repr
abbrev encFlop (f : Flop) : AV := .agg [.int .i64 f.next, .bool f.init]
abbrev encGate (g : Int × Int) : AV := .agg [.int .i64 g.1, .int .i64 g.2]
abbrev encInt (a : Int) : AV := .int .i64 a
abbrev encBool (a : Bool) : AV := .bool a
abbrev aigL (g : Aig) : List AV := [.int .i64 g.ins, .slice (g.flops.map encFlop) .no, .slice (g.ands.map encGate) .no, .slice (g.outs.map encInt) .no]
abbrev encAig (g : Aig) : AV := .agg (aigL g)
abbrev workC (g : Aig) (e : Int) : AObj := .cells [.int .i64 g.ins, .slice (g.flops.map encFlop) .no, .slice (g.ands.map encGate) .no, .slice (g.outs.map encInt) .no, .int .i64 e]
def I64 (a : Int) : Prop := -9223372036854775808 ≤ a ∧ a ≤ 9223372036854775807
structure Wf (g : Aig) : Prop where
  ins : I64 g.ins
  flops : g.flops.length ≤ 1000000
  ands : g.ands.length ≤ 1000000
  outs : g.outs.length ≤ 1000000
  nexts : ∀ f ∈ g.flops, I64 f.next
  gates : ∀ x ∈ g.ands, I64 x.1 ∧ I64 x.2
  lits : ∀ a ∈ g.outs, I64 a
structure Small (g : Aig) : Prop extends Wf g where
  lo : 0 ≤ g.ins
  hi : g.ins ≤ 1000000
namespace Aig
def count (g : Aig) : Int := g.ins + g.flops.length + g.ands.length
def first (g : Aig) : Int := 1 + g.ins + g.flops.length
def litN (n a : Int) : Bool := decide (0 ≤ a) && decide (a < 2 * n)
def lit (g : Aig) (a : Int) : Bool := litN (1 + g.count) a
def gatesOk : Int → List (Int × Int) → Bool
  | _, [] => true
  | n, x :: l => litN n x.1 && litN n x.2 && gatesOk (n + 1) l
def good (g : Aig) : Bool := gatesOk g.first g.ands && !(g.flops.any fun f => !g.lit f.next) && !(g.outs.any fun a => !g.lit a)
def check (g : Aig) : Int :=
  if g.ins < 0 then 1
  else if 65536 < g.ins ∨ 65536 < g.count ∨ 65536 < (g.outs.length : Int) then 2
  else if g.good then 0 else 1
def checkL (g : Aig) : Int → List Int → Int
  | e, [] => e
  | e, a :: l => g.checkL (if e = 0 ∧ g.lit a = false then 1 else e) l
def find (g : Aig) (a b : Int) : Int := idxF (fun x : Int × Int => decide (min x.1 x.2 = a) && decide (max x.1 x.2 = b)) g.ands
def andO (g : Aig) (p q : Int) : Option (Aig × Int) :=
  let a := min p q
  let b := max p q
  if a = 0 ∨ a = turn b then some (g, 0)
  else if a = 1 ∨ a = b then some (g, b)
  else if 0 ≤ g.find a b then some (g, 2 * (g.first + g.find a b))
  else if g.count = 65536 then none
  else some ({ g with ands := g.ands ++ [(a, b)] }, 2 * (g.count + 1))
def andW (g : Aig) (e p q : Int) : Aig × Int × Int :=
  if e ≠ 0 then (g, e, 0) else match g.andO p q with
    | none => (g, 2, 0)
    | some (g', x) => (g', 0, x)
def orW (g : Aig) (e p q : Int) : Aig × Int × Int :=
  let r := g.andW e (turn p) (turn q)
  (r.1, r.2.1, turn r.2.2)
def endW (r : Aig × Int × Int) : Aig × Int × Int := if r.2.1 ≠ 0 then (⟨0, [], [], []⟩, 0, r.2.1) else (r.1, r.2.2, 0)
end Aig
theorem litN_iff {n a : Int} : Aig.litN n a = true ↔ 0 ≤ a ∧ a < 2 * n := by simp [Aig.litN]
theorem gatesOk_iff : ∀ {l : List (Int × Int)} {n : Int}, Aig.gatesOk n l = true ↔ ∀ i, (h : i < l.length) → (0 ≤ l[i].1 ∧ l[i].1 < 2 * (n + i)) ∧ (0 ≤ l[i].2 ∧ l[i].2 < 2 * (n + i))
  | [], n => by simp [Aig.gatesOk]
  | x :: l, n => by
    simp only [Aig.gatesOk, Bool.and_eq_true, litN_iff, gatesOk_iff (l := l) (n := n + 1)]
    constructor
    · rintro ⟨h1, h2⟩ i hi
      cases i with
      | zero => simpa using h1
      | succ i =>
        have := h2 i (by simpa using hi)
        simp only [List.getElem_cons_succ]
        omega
    · intro h
      have h0 := h 0 (by simp)
      refine ⟨by simpa using h0, fun i hi => ?_⟩
      have := h (i + 1) (by simpa using hi)
      simp only [List.getElem_cons_succ] at this
      omega
theorem gatesOk_false {l : List (Int × Int)} {n : Int} {i : Nat} (h : i < l.length) (hb : ¬ ((0 ≤ l[i].1 ∧ l[i].1 < 2 * (n + i)) ∧ (0 ≤ l[i].2 ∧ l[i].2 < 2 * (n + i)))) : Aig.gatesOk n l = false := by
  cases hh : Aig.gatesOk n l with
  | false => rfl
  | true => exact (hb (gatesOk_iff.1 hh i h)).elim
theorem checkL_append (g : Aig) : ∀ (l m : List Int) (e : Int), g.checkL e (l ++ m) = g.checkL (g.checkL e l) m
  | [], m, e => rfl
  | a :: l, m, e => by simp only [List.cons_append, Aig.checkL]; exact checkL_append g l m _
theorem checkL_snoc (g : Aig) (l : List Int) (a e : Int) : g.checkL e (l ++ [a]) = if g.checkL e l = 0 ∧ g.lit a = false then 1 else g.checkL e l := by
  rw [checkL_append]; rfl
theorem checkL_ne (g : Aig) : ∀ (l : List Int) (e : Int), e ≠ 0 → g.checkL e l = e
  | [], e, _ => rfl
  | a :: l, e, h => by simp only [Aig.checkL, h, false_and, if_false]; exact checkL_ne g l e h
theorem checkL_zero {g : Aig} : ∀ {l : List Int} {e : Int}, g.checkL e l = 0 ↔ e = 0 ∧ ∀ a ∈ l, g.lit a = true
  | [], e => by simp [Aig.checkL]
  | a :: l, e => by
    simp only [Aig.checkL, checkL_zero (l := l), List.mem_cons, forall_eq_or_imp]
    by_cases he : e = 0
    · cases h : g.lit a <;> simp [he, h]
    · simp [he]
theorem check_small {g : Aig} (hs : Wf g) (h : g.check = 0) : Small g := by
  unfold Aig.check at h
  split at h
  · simp at h
  · split at h
    · simp at h
    · exact ⟨hs, by omega, by omega⟩
theorem checkL_small {g : Aig} {l : List Int} (hs : Wf g) (h : g.checkL g.check l = 0) : Small g := check_small hs (checkL_zero.1 h).1
section
variable {g : Aig} {a b : Int}
theorem andW1 (h : min a b = 0 ∨ min a b = turn (max a b)) : g.andW 0 a b = (g, 0, 0) := by simp [Aig.andW, Aig.andO, h]
theorem andW2 (h : ¬ (min a b = 0 ∨ min a b = turn (max a b))) (h2 : min a b = 1 ∨ min a b = max a b) : g.andW 0 a b = (g, 0, max a b) := by
  simp only [Aig.andW, Aig.andO, h, h2, if_true, if_false]; rfl
theorem andW3 (h : ¬ (min a b = 0 ∨ min a b = turn (max a b))) (h2 : ¬ (min a b = 1 ∨ min a b = max a b)) (h3 : 0 ≤ g.find (min a b) (max a b)) : g.andW 0 a b = (g, 0, 2 * (g.first + g.find (min a b) (max a b))) := by
  simp only [Aig.andW, Aig.andO, h, h2, h3, if_true, if_false]; rfl
theorem andW4 (h : ¬ (min a b = 0 ∨ min a b = turn (max a b))) (h2 : ¬ (min a b = 1 ∨ min a b = max a b)) (h3 : ¬ 0 ≤ g.find (min a b) (max a b)) (h4 : g.count = 65536) : g.andW 0 a b = (g, 2, 0) := by
  simp only [Aig.andW, Aig.andO, h, h2, h3, h4, if_true, if_false]; rfl
theorem andW5 (h : ¬ (min a b = 0 ∨ min a b = turn (max a b))) (h2 : ¬ (min a b = 1 ∨ min a b = max a b)) (h3 : ¬ 0 ≤ g.find (min a b) (max a b)) (h4 : ¬ g.count = 65536) :
    g.andW 0 a b = ({ g with ands := g.ands ++ [(min a b, max a b)] }, 0, 2 * (g.count + 1)) := by
  simp only [Aig.andW, Aig.andO, h, h2, h3, h4, if_false]; rfl
theorem count_push (x : Int × Int) : ({ g with ands := g.ands ++ [x] } : Aig).count = g.count + 1 := by simp [Aig.count]; omega
end
theorem szs_gate (l : List (Int × Int)) : szs 2 (l.map encGate) = True := szs_map _ _ _ fun _ => rfl
theorem szs_flop (l : List Flop) : szs 2 (l.map encFlop) = True := szs_map _ _ _ fun _ => rfl
theorem szs_int (l : List Int) : szs 1 (l.map encInt) = True := szs_map _ _ _ fun _ => rfl
theorem szs_bool (l : List Bool) : szs 1 (l.map encBool) = True := szs_map _ _ _ fun _ => rfl
attribute [go_sem] szs_gate szs_flop szs_int szs_bool

/-! ### Making gates -/
structure Ext (g g' : Aig) : Prop where
  ins : g'.ins = g.ins
  flops : g'.flops = g.flops
  outs : g'.outs = g.outs
  ands : ∃ l, g'.ands = g.ands ++ l
theorem Ext.refl (g : Aig) : Ext g g := ⟨rfl, rfl, rfl, [], by simp⟩
theorem Ext.trans {g g' g'' : Aig} (h : Ext g g') (h' : Ext g' g'') : Ext g g'' := by
  obtain ⟨a1, a2, a3, l, a4⟩ := h
  obtain ⟨b1, b2, b3, m, b4⟩ := h'
  exact ⟨b1.trans a1, b2.trans a2, b3.trans a3, l ++ m, by rw [b4, a4, List.append_assoc]⟩
theorem Ext.count {g g' : Aig} (h : Ext g g') : g.count ≤ g'.count := by
  obtain ⟨a1, a2, a3, l, a4⟩ := h
  simp only [Aig.count, a1, a2, a4, List.length_append]; omega
theorem Ext.first {g g' : Aig} (h : Ext g g') : g'.first = g.first := by simp only [Aig.first, h.ins, h.flops]
theorem Ext.lit {g g' : Aig} (h : Ext g g') {a : Int} (ha : g.lit a = true) : g'.lit a = true := by
  have := h.count
  simp only [Aig.lit, litN_iff] at ha ⊢
  omega
structure Fine (g : Aig) : Prop extends Small g where
  cnt : g.count ≤ 65536
  gok : Aig.gatesOk g.first g.ands = true
theorem gatesOk_append {n : Int} : ∀ {l m : List (Int × Int)}, Aig.gatesOk n (l ++ m) = (Aig.gatesOk n l && Aig.gatesOk (n + l.length) m)
  | [], m => by simp [Aig.gatesOk]
  | x :: l, m => by
    simp only [List.cons_append, Aig.gatesOk, gatesOk_append (l := l), List.length_cons, Bool.and_assoc]
    congr 4; simp only [Int.natCast_add]; omega
theorem count_first (g : Aig) : 1 + g.count = g.first + g.ands.length := by simp only [Aig.count, Aig.first]; omega
theorem turn_lit {n a : Int} (h : Aig.litN n a = true) : Aig.litN n (turn a) = true := by
  simp only [litN_iff, turn] at h ⊢; omega
theorem andO_some {g g' : Aig} {p q x : Int} (hf : Fine g) (hp : g.lit p = true) (hq : g.lit q = true) (h : g.andO p q = some (g', x)) : Fine g' ∧ Ext g g' ∧ g'.lit x = true := by
  have hp' := litN_iff.1 hp
  have hq' := litN_iff.1 hq
  have hlo := hf.lo
  have hc : 0 ≤ g.count := by unfold Aig.count; omega
  unfold Aig.andO at h
  simp only at h
  split at h
  · simp at h; obtain ⟨rfl, rfl⟩ := h
    exact ⟨hf, .refl g, by simp only [Aig.lit, litN_iff]; omega⟩
  · rename_i h1
    split at h
    · simp at h; obtain ⟨rfl, rfl⟩ := h
      exact ⟨hf, .refl g, by simp only [Aig.lit, litN_iff]; omega⟩
    · split at h
      · simp at h; obtain ⟨rfl, rfl⟩ := h
        have := idxF_bounds (fun x : Int × Int => decide (min x.1 x.2 = min p q) && decide (max x.1 x.2 = max p q)) g.ands
        have e : g.find (min p q) (max p q) = idxF (fun x : Int × Int => decide (min x.1 x.2 = min p q) && decide (max x.1 x.2 = max p q)) g.ands := rfl
        have cf := count_first g
        refine ⟨hf, .refl g, ?_⟩
        have hff : 1 ≤ g.first := by unfold Aig.first; omega
        simp only [Aig.lit, litN_iff]; omega
      · split at h
        · simp at h
        · rename_i hcn
          simp at h; obtain ⟨rfl, rfl⟩ := h
          have hcc := hf.cnt
          have hlen : (g.ands.length : Int) ≤ 65536 := by simp only [Aig.count] at hcc; omega
          have cp := count_push (g := g) (min p q, max p q)
          have cf := count_first g
          have hsm : Small { g with ands := g.ands ++ [(min p q, max p q)] } := { hf.toSmall with
            ands := by simp; omega
            gates := fun y hy => by
              rcases List.mem_append.1 hy with h | h
              · exact hf.gates y h
              · simp at h; subst h; exact ⟨⟨by simp; omega, by simp; omega⟩, ⟨by simp; omega, by simp; omega⟩⟩ }
          refine ⟨{ hsm with cnt := by omega, gok := ?_ }, ⟨rfl, rfl, rfl, _, rfl⟩, by simp only [Aig.lit, litN_iff]; omega⟩
          show Aig.gatesOk g.first (g.ands ++ [(min p q, max p q)]) = true
          rw [gatesOk_append, hf.gok]
          simp only [Aig.gatesOk, Bool.and_true, Bool.true_and, Bool.and_eq_true, litN_iff]
          omega
theorem andW_err {g : Aig} {e p q : Int} (h : (g.andW e p q).2.1 = 0) : e = 0 := by
  unfold Aig.andW at h
  split at h
  · exact h
  · rename_i h'; simpa using h'
theorem andW_none {g : Aig} {e p q : Int} (h : e ≠ 0) : g.andW e p q = (g, e, 0) := by simp [Aig.andW, h]
theorem andW_ok {g : Aig} {e p q : Int} (hf : e = 0 → Fine g ∧ g.lit p = true ∧ g.lit q = true) :
    ((g.andW e p q).2.1 = 0 → Fine (g.andW e p q).1 ∧ (g.andW e p q).1.lit (g.andW e p q).2.2 = true) ∧ Ext g (g.andW e p q).1 ∧ 0 ≤ (g.andW e p q).2.2 ∧ (g.andW e p q).2.2 ≤ 1000000 := by
  by_cases he : e = 0
  · subst he
    obtain ⟨h1, h2, h3⟩ := hf rfl
    cases ho : g.andO p q with
    | none =>
      have : g.andW 0 p q = (g, 2, 0) := by simp [Aig.andW, ho]
      rw [this]
      exact ⟨fun h => by simp at h, .refl g, by simp, by simp⟩
    | some r =>
      obtain ⟨g', x⟩ := r
      have : g.andW 0 p q = (g', 0, x) := by simp [Aig.andW, ho]
      rw [this]
      obtain ⟨k1, k2, k3⟩ := andO_some h1 h2 h3 ho
      have := litN_iff.1 k3
      have := k1.cnt
      exact ⟨fun _ => ⟨k1, k3⟩, k2, by simp; omega, by simp; omega⟩
  · rw [andW_none he]
    exact ⟨fun h => (he h).elim, .refl g, by simp, by simp⟩
theorem andW_range {g : Aig} {e p q : Int} (hf : e = 0 → Fine g ∧ g.lit p = true ∧ g.lit q = true) : I64 (g.andW e p q).2.2 := by
  obtain ⟨_, _, h1, h2⟩ := andW_ok hf
  exact ⟨by omega, by omega⟩
theorem check_fine {g : Aig} (hs : Wf g) (h : g.check = 0) : Fine g := by
  have hsm := check_small hs h
  unfold Aig.check at h
  split at h
  · simp at h
  · split at h
    · simp at h
    · split at h
      · rename_i hg
        simp only [Aig.good, Bool.and_eq_true] at hg
        exact { hsm with cnt := by omega, gok := hg.1.1 }
      · simp at h
theorem checkL_fine {g : Aig} {l : List Int} (hs : Wf g) (h : g.checkL g.check l = 0) : Fine g ∧ ∀ a ∈ l, g.lit a = true := ⟨check_fine hs (checkL_zero.1 h).1, (checkL_zero.1 h).2⟩
namespace Aig
def And (g : Aig) (a b : Int) : Aig × Int × Int := endW (g.andW (g.checkL g.check [a, b]) a b)
def Or (g : Aig) (a b : Int) : Aig × Int × Int := endW (g.orW (g.checkL g.check [a, b]) a b)
def pairs (g : Aig) (e a b c d : Int) : Aig × Int × Int :=
  let r := g.andW e a b
  let s := r.1.andW r.2.1 c d
  s.1.orW s.2.1 r.2.2 s.2.2
def Xor (g : Aig) (a b : Int) : Aig × Int × Int := endW (g.pairs (g.checkL g.check [a, b]) a (turn b) (turn a) b)
def Mux (g : Aig) (c a b : Int) : Aig × Int × Int := endW (g.pairs (g.checkL g.check [c, a, b]) c a (turn c) b)
def New (ins : Int) (init : List Bool) : Aig × Int :=
  if ins < 0 then (⟨0, [], [], []⟩, 1) else if 65536 < ins + init.length then (⟨0, [], [], []⟩, 2) else (⟨ins, init.map fun b => ⟨0, b⟩, [], []⟩, 0)
def val (v : List Bool) (a : Int) : Bool := (v.getD (a / 2).toNat false) != decide (a % 2 = 1)
def vals : List Bool → List (Int × Int) → List Bool
  | v, [] => v
  | v, x :: l => vals (v ++ [val v x.1 && val v x.2]) l
end Aig
theorem take_succ {α : Type} {l : List α} {i : Nat} (h : i < l.length) : l.take (i + 1) = l.take i ++ [l[i]] := by
  rw [List.take_add_one, List.getElem?_eq_getElem h]; rfl
theorem checkL_bad {g : Aig} : ∀ {l : List Int} {a : Int}, a ∈ l → g.lit a = false → g.checkL 0 l = 1
  | b :: l, a, ha, hb => by
    simp only [Aig.checkL]
    rcases List.mem_cons.1 ha with rfl | h
    · simp only [hb, and_self, if_true]; exact checkL_ne g l 1 (by decide)
    · cases hh : g.lit b with
      | false => simp only [and_self, if_true]; exact checkL_ne g l 1 (by decide)
      | true => simp only [Bool.true_eq_false, and_false, if_false]; exact checkL_bad h hb
theorem find_eq {g : Aig} {a b : Int} (h : a ≤ b) : g.find a b = idxF (fun x : Int × Int => (decide (x.1 = a) && decide (x.2 = b)) || (decide (x.1 = b) && decide (x.2 = a))) g.ands := by
  unfold Aig.find
  congr 1
  funext x
  rw [Bool.eq_iff_iff]
  simp only [Bool.and_eq_true, Bool.or_eq_true, decide_eq_true_eq]
  omega
theorem endW_or {g : Aig} {a b : Int} (h : (g.andW 0 (turn a) (turn b)).2.1 = 0) : Aig.endW (g.orW 0 a b) = ((g.andW 0 (turn a) (turn b)).1, turn (g.andW 0 (turn a) (turn b)).2.2, 0) := by
  simp only [Aig.endW, Aig.orW, h]; rfl
theorem endW_or' {g : Aig} {a b : Int} (h : (g.andW 0 (turn a) (turn b)).2.1 ≠ 0) : Aig.endW (g.orW 0 a b) = (⟨0, [], [], []⟩, 0, (g.andW 0 (turn a) (turn b)).2.1) := by
  simp only [Aig.endW, Aig.orW, h, ne_eq, not_false_eq_true, if_true]
theorem endW_ok {r : Aig × Int × Int} (h : r.2.1 = 0) : Aig.endW r = (r.1, r.2.2, 0) := by simp [Aig.endW, h]
theorem endW_err {r : Aig × Int × Int} (h : r.2.1 ≠ 0) : Aig.endW r = (⟨0, [], [], []⟩, 0, r.2.1) := by simp [Aig.endW, h]
end Fil

namespace Go.Proofs.YtbbihmmobfmadaaGreat.A
open Abs Fil
theorem aig_count (o : Nat) (g : Aig) (e : Int) (σ : Sig) (h : σ o = some (workC g e)) (hs : Small g) :
    ACalls Tryz.prog 233 [.ptr o 0] σ (fun r σ' => r = .ret (.int .i64 g.count) ∧ σ' = σ) := by
  refine calls_x mixed Tryz.func233 b233 n233 rfl q233 (by simp) ?_; unfold c233 r233
  obtain ⟨⟨h0, h1, h2, h3, h4, h5, h6⟩, h7, h8⟩ := hs
  repeat' (first | simp (maxDischargeDepth := 9) -implicitDefEqProofs -dsimp only [go_sem, seval, *] | simp (disch := omega) only [wrap64])
  exact fin_id ⟨rfl, rfl⟩
theorem aig_first (o : Nat) (g : Aig) (e : Int) (σ : Sig) (h : σ o = some (workC g e)) (hs : Small g) :
    ACalls Tryz.prog 235 [.ptr o 0] σ (fun r σ' => r = .ret (.int .i64 g.first) ∧ σ' = σ) := by
  refine calls_x mixed Tryz.func235 b235 n235 rfl q235 (by simp) ?_; unfold c235 r235
  obtain ⟨⟨h0, h1, h2, h3, h4, h5, h6⟩, h7, h8⟩ := hs
  repeat' (first | simp (maxDischargeDepth := 9) -implicitDefEqProofs -dsimp only [go_sem, seval, *] | simp (disch := omega) only [wrap64])
  exact fin_id ⟨rfl, rfl⟩
theorem aig_lit (o : Nat) (g : Aig) (e a : Int) (σ : Sig) (h : σ o = some (workC g e)) (hs : Small g) (ha : I64 a) :
    ACalls Tryz.prog 201 [.ptr o 0, .int .i64 a] σ (fun r σ' => r = .ret (.bool (g.lit a)) ∧ σ' = σ) := by
  refine calls_x mixed Tryz.func201 b201 n201 rfl q201 (by simp) ?_; unfold c201 r201
  obtain ⟨ha1, ha2⟩ := ha
  repeat' (first | simp (maxDischargeDepth := 9) -implicitDefEqProofs -dsimp only [go_sem, seval, *] | simp (disch := omega) only [wrap64, tdiv2] | (with_reducible (first | apply Za) <;> intro hq) | ((with_reducible apply ACalls.one1); (focus ((first | with_reducible refine aig_count o g e σ h hs) <;> (first | (simp (maxDischargeDepth := 9) -implicitDefEqProofs -dsimp only [go_sem, seval, *]; done) | omega))); (focus (first | trivial | with_reducible exact rfl | (simp (maxDischargeDepth := 9) -implicitDefEqProofs -dsimp only [go_sem, seval]; done)))))
  · refine fin_eq ?_
    simp (maxDischargeDepth := 9) -implicitDefEqProofs -dsimp only [go_sem, seval]
    rw [Bool.eq_iff_iff]
    simp only [Aig.lit, litN_iff, decide_eq_true_eq]
    omega
  · refine fin_eq ?_
    simp (maxDischargeDepth := 9) -implicitDefEqProofs -dsimp only [go_sem, seval]
    have : ¬ (0 ≤ a) := by omega
    simp [Aig.lit, Aig.litN, this]
theorem aig_check1 (b o : Nat) (f : Flop) (g : Aig) (e : Int) (σ : Sig) (hb : σ b = some (.cells [.ptr o 0])) (h : σ o = some (workC g e)) (hs : Small g) (hf : I64 f.next) :
    ACalls Tryz.prog 231 [encFlop f, .ptr b 0] σ (fun r σ' => r = .ret (.bool (!g.lit f.next)) ∧ σ' = σ) := by
  refine calls_x mixed Tryz.func231 b231 n231 rfl q231 (by simp) ?_; unfold c231 r231
  repeat' (first | simp (maxDischargeDepth := 9) -implicitDefEqProofs -dsimp only [go_sem, seval, *] | ((with_reducible apply ACalls.one1); (focus ((first | with_reducible refine aig_lit o g e f.next σ h hs hf) <;> (first | (simp (maxDischargeDepth := 9) -implicitDefEqProofs -dsimp only [go_sem, seval, *]; done) | omega))); (focus (first | trivial | with_reducible exact rfl | (simp (maxDischargeDepth := 9) -implicitDefEqProofs -dsimp only [go_sem, seval]; done)))))
  exact fin_id ⟨rfl, rfl⟩
theorem aig_check2 (b o : Nat) (a : Int) (g : Aig) (e : Int) (σ : Sig) (hb : σ b = some (.cells [.ptr o 0])) (h : σ o = some (workC g e)) (hs : Small g) (hf : I64 a) :
    ACalls Tryz.prog 232 [.int .i64 a, .ptr b 0] σ (fun r σ' => r = .ret (.bool (!g.lit a)) ∧ σ' = σ) := by
  refine calls_x mixed Tryz.func232 b232 n232 rfl q232 (by simp) ?_; unfold c232 r232
  repeat' (first | simp (maxDischargeDepth := 9) -implicitDefEqProofs -dsimp only [go_sem, seval, *] | ((with_reducible apply ACalls.one1); (focus ((first | with_reducible refine aig_lit o g e a σ h hs hf) <;> (first | (simp (maxDischargeDepth := 9) -implicitDefEqProofs -dsimp only [go_sem, seval, *]; done) | omega))); (focus (first | trivial | with_reducible exact rfl | (simp (maxDischargeDepth := 9) -implicitDefEqProofs -dsimp only [go_sem, seval]; done)))))
  exact fin_id ⟨rfl, rfl⟩
theorem sl_indexFlop (p : Flop → Bool) (l : List Flop) (hl : l.length ≤ 1000000000000) (σ : Sig) {F : Nat} {caps : List AV} (hF : ∀ x ∈ l, ACalls Tryz.prog F (encFlop x :: caps) σ (fun r σ' => r = .ret (.bool (p x)) ∧ σ' = σ)) :
    ACalls Tryz.prog 246 [.slice (l.map encFlop) .no, .fn F [] caps] σ (fun r σ' => r = .ret (.int .i64 (idxF p l)) ∧ σ' = σ) :=
  lib_indexFunc (sz := 2) (g := true) mixed Tryz.func246 b246 n246 rfl q246 (fun _ => rfl) (fun _ => rfl) p l hl hF
theorem sl_indexInt (p : Int → Bool) (l : List Int) (hl : l.length ≤ 1000000000000) (σ : Sig) {F : Nat} {caps : List AV} (hF : ∀ x ∈ l, ACalls Tryz.prog F (encInt x :: caps) σ (fun r σ' => r = .ret (.bool (p x)) ∧ σ' = σ)) :
    ACalls Tryz.prog 144 [.slice (l.map encInt) .no, .fn F [] caps] σ (fun r σ' => r = .ret (.int .i64 (idxF p l)) ∧ σ' = σ) :=
  lib_indexFunc (sz := 1) (g := false) mixed Tryz.func144 b144 n144 rfl q144 (fun _ => rfl) (fun _ => rfl) p l hl hF
theorem sl_indexGate (p : Int × Int → Bool) (l : List (Int × Int)) (hl : l.length ≤ 1000000000000) (σ : Sig) {F : Nat} {caps : List AV} (hF : ∀ x ∈ l, ACalls Tryz.prog F (encGate x :: caps) σ (fun r σ' => r = .ret (.bool (p x)) ∧ σ' = σ)) :
    ACalls Tryz.prog 240 [.slice (l.map encGate) .no, .fn F [] caps] σ (fun r σ' => r = .ret (.int .i64 (idxF p l)) ∧ σ' = σ) :=
  lib_indexFunc (sz := 2) (g := true) mixed Tryz.func240 b240 n240 rfl q240 (fun _ => rfl) (fun _ => rfl) p l hl hF
theorem sl_containsFlop (p : Flop → Bool) (l : List Flop) (hl : l.length ≤ 1000000000000) (σ : Sig) {F : Nat} {caps : List AV} (hF : ∀ x ∈ l, ACalls Tryz.prog F (encFlop x :: caps) σ (fun r σ' => r = .ret (.bool (p x)) ∧ σ' = σ)) :
    ACalls Tryz.prog 234 [.slice (l.map encFlop) .no, .fn F [] caps] σ (fun r σ' => r = .ret (.bool (l.any p)) ∧ σ' = σ) :=
  lib_containsFunc mixed Tryz.func234 b234 n234 rfl q234 p l (sl_indexFlop p l hl σ hF)
theorem sl_containsInt (p : Int → Bool) (l : List Int) (hl : l.length ≤ 1000000000000) (σ : Sig) {F : Nat} {caps : List AV} (hF : ∀ x ∈ l, ACalls Tryz.prog F (encInt x :: caps) σ (fun r σ' => r = .ret (.bool (p x)) ∧ σ' = σ)) :
    ACalls Tryz.prog 73 [.slice (l.map encInt) .no, .fn F [] caps] σ (fun r σ' => r = .ret (.bool (l.any p)) ∧ σ' = σ) :=
  lib_containsFunc mixed Tryz.func73 b73 n73 rfl q73 p l (sl_indexInt p l hl σ hF)
theorem sl_clipGate (l : List (Int × Int)) (σ : Sig) :
    ACalls Tryz.prog 242 [.slice (l.map encGate) .no] σ (fun r σ' => r = .ret (.slice (l.map encGate) .full) ∧ σ' = σ) :=
  lib_clip (sz := 2) mixed Tryz.func242 b242 n242 rfl q242 (fun _ => rfl) l
theorem aig_check (o : Nat) (g : Aig) (e : Int) (σ : Sig) (h : σ o = some (workC g e)) (hs : Wf g) :
    ACalls Tryz.prog 200 [.ptr o 0] σ (fun r σ' => r = .ret (.int .i64 g.check) ∧ σ' = σ) := by
  refine calls_x mixed Tryz.func200 b200 n200 rfl q200 (by simp) ?_; unfold c200 r200
  by_cases hlo : g.ins < 0
  · repeat' (first | simp (maxDischargeDepth := 9) -implicitDefEqProofs -dsimp only [go_sem, seval, *] | simp (disch := omega) only [wrap64] | (with_reducible (first | apply Zb | apply Zc | apply Zr) <;> intro hq) | ((with_reducible refine Zu ?_ ?_); focus omega) | ((with_reducible refine Zt (fun oF hoF hnF hnF' => ?_)); (try simp only [upd_none, ne_eq, not_and] at hoF)))
    refine fin_eq ?_
    have : g.check = 1 := by simp [Aig.check, hlo]
    (repeat' (first | simp (maxDischargeDepth := 9) -implicitDefEqProofs -dsimp only [go_sem, seval, this, *] | simp (disch := omega) only [wrap64])) <;> (repeat' refine And.intro ?_ ?_) <;> (first | omega | rfl | assumption | skip)
  by_cases hhi : 65536 < g.ins
  · repeat' (first | simp (maxDischargeDepth := 9) -implicitDefEqProofs -dsimp only [go_sem, seval, gt_iff_lt, *] | simp (disch := omega) only [wrap64] | (with_reducible (first | apply Zb | apply Zc | apply Zr) <;> intro hq) | ((with_reducible refine Zu ?_ ?_); focus omega) | ((with_reducible refine Zt (fun oF hoF hnF hnF' => ?_)); (try simp only [upd_none, ne_eq, not_and] at hoF)))
    refine fin_eq ?_
    have : g.check = 2 := by simp [Aig.check, hlo, hhi]
    (repeat' (first | simp (maxDischargeDepth := 9) -implicitDefEqProofs -dsimp only [go_sem, seval, this, *] | simp (disch := omega) only [wrap64])) <;> (repeat' refine And.intro ?_ ?_) <;> (first | omega | rfl | assumption | skip)
  have hsm : Small g := ⟨hs, by omega, by omega⟩
  have hfl := hs.flops
  have hol := hs.outs
  repeat' (first | simp (maxDischargeDepth := 9) -implicitDefEqProofs -dsimp only [go_sem, seval, gt_iff_lt, *] | simp (disch := omega) only [wrap64] | (with_reducible (first | apply Zb | apply Zc | apply Zr) <;> intro hq) | ((with_reducible refine Zu ?_ ?_); focus omega) | ((with_reducible refine Zt (fun oF hoF hnF hnF' => ?_)); (try simp only [upd_none, ne_eq, not_and] at hoF)) | ((with_reducible apply ACalls.one1); (focus ((first | with_reducible refine aig_count o g e _ ?_ hsm | with_reducible refine sl_containsFlop (fun f => !g.lit f.next) g.flops ?_ _ (fun f hf => aig_check1 _ o f g e _ ?_ ?_ hsm (hs.nexts f hf)) | with_reducible refine sl_containsInt (fun a => !g.lit a) g.outs ?_ _ (fun a ha => aig_check2 _ o a g e _ ?_ ?_ hsm (hs.lits a ha))) <;> (first | (simp (maxDischargeDepth := 9) -implicitDefEqProofs -dsimp only [go_sem, seval, *]; done) | omega))); (focus (first | trivial | with_reducible exact rfl | (simp (maxDischargeDepth := 9) -implicitDefEqProofs -dsimp only [go_sem, seval]; done)))))
  · refine fin_eq ?_
    have : g.check = 2 := by simp [Aig.check, hlo, hhi, hq]
    (repeat' (first | simp (maxDischargeDepth := 9) -implicitDefEqProofs -dsimp only [go_sem, seval, this, *] | simp (disch := omega) only [wrap64])) <;> (repeat' refine And.intro ?_ ?_) <;> (first | omega | rfl | assumption | skip)
  · refine fin_eq ?_
    have : g.check = 2 := by simp [Aig.check, hlo, hhi, hq]
    (repeat' (first | simp (maxDischargeDepth := 9) -implicitDefEqProofs -dsimp only [go_sem, seval, this, *] | simp (disch := omega) only [wrap64])) <;> (repeat' refine And.intro ?_ ?_) <;> (first | omega | rfl | assumption | skip)
  · refine fin_eq ?_
    have : g.check = 1 := by simp [Aig.check, Aig.good, hlo, hhi, *]
    (repeat' (first | simp (maxDischargeDepth := 9) -implicitDefEqProofs -dsimp only [go_sem, seval, this, *] | simp (disch := omega) only [wrap64])) <;> (repeat' refine And.intro ?_ ?_) <;> (first | omega | rfl | assumption | skip)
  · refine fin_eq ?_
    have : g.check = 1 := by simp [Aig.check, Aig.good, hlo, hhi, *]
    (repeat' (first | simp (maxDischargeDepth := 9) -implicitDefEqProofs -dsimp only [go_sem, seval, this, *] | simp (disch := omega) only [wrap64])) <;> (repeat' refine And.intro ?_ ?_) <;> (first | omega | rfl | assumption | skip)
  · refine loop_rule (fun i : Nat => [(1, some (.ptr oF 0)), (52, some (.slice (g.ands.map encGate) .no)), (53, some (.int .i64 g.ands.length)), (54, some (.int .i64 i))]) (fun _ => upd σ oF (.cells [.ptr o 0])) (fun i => i ≤ g.ands.length ∧ ∀ j, (hj : j < g.ands.length) → j < i → (0 ≤ g.ands[j].1 ∧ g.ands[j].1 < 2 * (g.first + j)) ∧ (0 ≤ g.ands[j].2 ∧ g.ands[j].2 < 2 * (g.first + j))) (fun i => g.ands.length - i) 0 ?_ ?_
    · (repeat' (first | simp (maxDischargeDepth := 9) -implicitDefEqProofs -dsimp only [go_sem, seval, *] | simp (disch := omega) only [wrap64])) <;> (repeat' refine And.intro ?_ ?_) <;> (first | omega | rfl | assumption | skip)
    · rintro i ⟨hi, hb⟩
      have hA := hs.ands
      have hF := hs.flops
      have hfd : 1 ≤ g.first ∧ g.first ≤ 3000000 := by
        have := hsm.lo; have := hsm.hi
        unfold Aig.first; omega
      by_cases hlt : i < g.ands.length
      · have hgate := hs.gates _ (List.getElem_mem hlt)
        obtain ⟨⟨g1, g2⟩, g3, g4⟩ := hgate
        repeat' (first | simp (maxDischargeDepth := 9) -implicitDefEqProofs -dsimp only [go_sem, seval, ge_iff_le, *] | simp (disch := omega) only [wrap64] | (with_reducible (first | apply Zb | apply Zc | apply Zr) <;> intro hq) | ((with_reducible refine Zu ?_ ?_); focus omega) | ((with_reducible refine Zt (fun oF hoF hnF hnF' => ?_)); (try simp only [upd_none, ne_eq, not_and] at hoF)) | ((with_reducible apply ACalls.one1); (focus ((first | with_reducible refine aig_first o g e _ ?_ hsm) <;> (first | (simp (maxDischargeDepth := 9) -implicitDefEqProofs -dsimp only [go_sem, seval, *]; done) | omega))); (focus (first | trivial | with_reducible exact rfl | (simp (maxDischargeDepth := 9) -implicitDefEqProofs -dsimp only [go_sem, seval]; done)))) | ((with_reducible apply id_one0); (focus (intro tS hS; ((first | with_reducible refine aig_first o g e _ ?_ hsm) <;> (first | (simp (maxDischargeDepth := 9) -implicitDefEqProofs -dsimp only [go_sem, seval, *]; done) | omega | ((with_reducible refine Sub.get hS ?_); simp (maxDischargeDepth := 9) -implicitDefEqProofs -dsimp only [go_sem, seval, *]; done))))); (focus (first | trivial | (simp (maxDischargeDepth := 9) -implicitDefEqProofs -dsimp only [go_sem, seval, *]; done)))))
        · have : g.check = 1 := by
            have := gatesOk_false (n := g.first) hlt (by omega)
            simp [Aig.check, Aig.good, hlo, hhi, *]
          refine fin_eq ?_
          (repeat' (first | simp (maxDischargeDepth := 9) -implicitDefEqProofs -dsimp only [go_sem, seval, this, *] | simp (disch := omega) only [wrap64])) <;> (repeat' refine And.intro ?_ ?_) <;> (first | omega | rfl | assumption | skip)
        · refine loop_next _ _ _ _ (i + 1) ?_; (repeat' (first | simp (maxDischargeDepth := 9) -implicitDefEqProofs -dsimp only [go_sem, seval, *] | simp (disch := omega) only [wrap64])) <;> (repeat' refine And.intro ?_ ?_) <;> (first | omega | rfl | assumption | skip)
          intro j hj h
          rcases Nat.lt_or_ge j i with h' | h'
          · exact hb j hj h'
          · obtain rfl : j = i := by omega
            omega
        · have : g.check = 1 := by
            have := gatesOk_false (n := g.first) hlt (by omega)
            simp [Aig.check, Aig.good, hlo, hhi, *]
          refine fin_eq ?_
          (repeat' (first | simp (maxDischargeDepth := 9) -implicitDefEqProofs -dsimp only [go_sem, seval, this, *] | simp (disch := omega) only [wrap64])) <;> (repeat' refine And.intro ?_ ?_) <;> (first | omega | rfl | assumption | skip)
      · repeat' (first | simp (maxDischargeDepth := 9) -implicitDefEqProofs -dsimp only [go_sem, seval, *] | simp (disch := omega) only [wrap64] | (with_reducible (first | apply Zb | apply Zc | apply Zr) <;> intro hq) | ((with_reducible refine Zu ?_ ?_); focus omega) | ((with_reducible refine Zt (fun oF hoF hnF hnF' => ?_)); (try simp only [upd_none, ne_eq, not_and] at hoF)))
        refine fin_eq ?_
        have : g.check = 0 := by
          have : Aig.gatesOk g.first g.ands = true := gatesOk_iff.2 fun j hj => hb j hj (by omega)
          simp [Aig.check, Aig.good, hlo, hhi, *]
        (repeat' (first | simp (maxDischargeDepth := 9) -implicitDefEqProofs -dsimp only [go_sem, seval, this, *] | simp (disch := omega) only [wrap64])) <;> (repeat' refine And.intro ?_ ?_) <;> (first | omega | rfl | assumption | skip)
end Go.Proofs.YtbbihmmobfmadaaGreat.A

namespace Go.Proofs.YtbbihmmobfmadaaGreat.A
open Abs Fil
theorem aig_begin (g : Aig) (l : List Int) (σ : Sig) (hs : Wf g) (hl : l.length ≤ 1000000) (hi : ∀ a ∈ l, I64 a) :
    ACalls Tryz.prog 145 [encAig g, .slice (l.map encInt) .no] σ (NewO σ (fun o => .ptr o 0) (workC g (g.checkL g.check l))) := by
  refine calls_x mixed Tryz.func145 b145 n145 rfl q145 (by simp) ?_; unfold c145 r145
  repeat' (first | simp (maxDischargeDepth := 9) -implicitDefEqProofs -dsimp only [go_sem, seval, *] | simp (disch := omega) only [wrap64] | (with_reducible (first | apply Zr) <;> intro hq) | ((with_reducible refine Zu ?_ ?_); focus omega) | ((with_reducible refine Zt (fun oF hoF hnF hnF' => ?_)); (try simp only [upd_none, ne_eq, not_and] at hoF)) | ((with_reducible apply ACalls.one1); (focus ((first | with_reducible refine aig_check _ g 0 _ ?_ hs) <;> (first | (simp (maxDischargeDepth := 9) -implicitDefEqProofs -dsimp only [go_sem, seval, *]; done) | omega))); (focus (first | trivial | with_reducible exact rfl | (simp (maxDischargeDepth := 9) -implicitDefEqProofs -dsimp only [go_sem, seval]; done)))))
  refine loop_rule (fun i : Nat => [(5, some (.ptr oF 0)), (16, some (.slice (l.map encInt) .no)), (17, some (.int .i64 l.length)), (18, some (.int .i64 i))]) (fun i => upd σ oF (workC g (g.checkL g.check (l.take i)))) (fun i => i ≤ l.length) (fun i => l.length - i) 0 ?_ ?_
  · (repeat' (first | simp (maxDischargeDepth := 9) -implicitDefEqProofs -dsimp only [go_sem, seval, Aig.checkL, *] | simp (disch := omega) only [wrap64])) <;> (repeat' refine And.intro ?_ ?_) <;> (first | omega | rfl | assumption | skip)
  · intro i hi'
    by_cases hlt : i < l.length
    · have hi2 := hi _ (List.getElem_mem hlt)
      have step : g.checkL g.check (l.take (i + 1)) = if g.checkL g.check (l.take i) = 0 ∧ g.lit l[i] = false then 1 else g.checkL g.check (l.take i) := by
        rw [List.take_add_one, List.getElem?_eq_getElem hlt]
        exact checkL_snoc g _ _ _
      by_cases he : g.checkL g.check (l.take i) = 0
      · have hsm : Small g := checkL_small hs he
        repeat' (first | simp (maxDischargeDepth := 9) -implicitDefEqProofs -dsimp only [go_sem, seval, *] | simp (disch := omega) only [wrap64] | (with_reducible (first | apply Zr) <;> intro hq) | ((with_reducible refine Zu ?_ ?_); focus omega) | ((with_reducible refine Zt (fun oF hoF hnF hnF' => ?_)); (try simp only [upd_none, ne_eq, not_and] at hoF)) | ((with_reducible apply ACalls.one1); (focus ((first | with_reducible refine aig_lit _ g 0 l[i] _ ?_ hsm hi2) <;> (first | (simp (maxDischargeDepth := 9) -implicitDefEqProofs -dsimp only [go_sem, seval, *]; done) | omega))); (focus (first | trivial | with_reducible exact rfl | (simp (maxDischargeDepth := 9) -implicitDefEqProofs -dsimp only [go_sem, seval]; done)))))
        · have st : g.checkL g.check (l.take (i + 1)) = 0 := by rw [step]; simp [*]
          refine loop_next _ _ _ _ (i + 1) ?_; (repeat' (first | simp (maxDischargeDepth := 9) -implicitDefEqProofs -dsimp only [go_sem, seval, *] | simp (disch := omega) only [wrap64])) <;> (repeat' refine And.intro ?_ ?_) <;> (first | omega | rfl | assumption | skip)
        · have st : g.checkL g.check (l.take (i + 1)) = 1 := by rw [step]; simp [*]
          refine loop_next _ _ _ _ (i + 1) ?_; (repeat' (first | simp (maxDischargeDepth := 9) -implicitDefEqProofs -dsimp only [go_sem, seval, *] | simp (disch := omega) only [wrap64])) <;> (repeat' refine And.intro ?_ ?_) <;> (first | omega | rfl | assumption | skip)
      · have st : g.checkL g.check (l.take (i + 1)) = g.checkL g.check (l.take i) := by rw [step]; simp [*]
        have hb : (g.checkL g.check (l.take i) == 0) = false := by simpa using he
        repeat' (first | simp (maxDischargeDepth := 9) -implicitDefEqProofs -dsimp only [go_sem, seval, *] | simp (disch := omega) only [wrap64] | (with_reducible (first | apply Zr) <;> intro hq) | ((with_reducible refine Zu ?_ ?_); focus omega) | ((with_reducible refine Zt (fun oF hoF hnF hnF' => ?_)); (try simp only [upd_none, ne_eq, not_and] at hoF)))
        refine loop_next _ _ _ _ (i + 1) ?_; (repeat' (first | simp (maxDischargeDepth := 9) -implicitDefEqProofs -dsimp only [go_sem, seval, *] | simp (disch := omega) only [wrap64])) <;> (repeat' refine And.intro ?_ ?_) <;> (first | omega | rfl | assumption | skip)
    · repeat' (first | simp (maxDischargeDepth := 9) -implicitDefEqProofs -dsimp only [go_sem, seval, *] | simp (disch := omega) only [wrap64] | (with_reducible (first | apply Zr) <;> intro hq) | ((with_reducible refine Zu ?_ ?_); focus omega) | ((with_reducible refine Zt (fun oF hoF hnF hnF' => ?_)); (try simp only [upd_none, ne_eq, not_and] at hoF)))
      refine fin_new oF hoF ?_
      have e0 : l.take i = l := List.take_of_length_le (by omega)
      (repeat' (first | simp (maxDischargeDepth := 9) -implicitDefEqProofs -dsimp only [go_sem, seval, e0, *] | simp (disch := omega) only [wrap64])) <;> (repeat' refine And.intro ?_ ?_) <;> (first | omega | rfl | assumption | skip)
theorem aig_and1 (pa pb : Nat) (x : Int × Int) (a b : Int) (σ : Sig) (ha : σ pa = some (.cells [.int .i64 a])) (hb : σ pb = some (.cells [.int .i64 b])) :
    ACalls Tryz.prog 241 [encGate x, .ptr pa 0, .ptr pb 0] σ (fun r σ' => r = .ret (.bool (decide (min x.1 x.2 = a) && decide (max x.1 x.2 = b))) ∧ σ' = σ) := by
  refine calls_x mixed Tryz.func241 b241 n241 rfl q241 (by simp) ?_; unfold c241 r241
  repeat' (first | simp (maxDischargeDepth := 9) -implicitDefEqProofs -dsimp only [go_sem, seval, *] | (with_reducible (first | apply Zj) <;> intro hq))
  · have e : min x.1 x.2 = a := by omega
    exact fin_id ⟨by simp [e, Bool.beq_eq_decide_eq], rfl⟩
  · exact fin_id ⟨by simp [hq], rfl⟩
theorem aig_and (o : Nat) (g : Aig) (e a b : Int) (σ : Sig) (h : σ o = some (workC g e)) (hok : e = 0 → Fine g ∧ g.lit a = true ∧ g.lit b = true) :
    ACalls Tryz.prog 214 [.ptr o 0, .int .i64 a, .int .i64 b] σ (fun r σ' => r = .ret (.int .i64 (g.andW e a b).2.2) ∧ σ' = upd σ o (workC (g.andW e a b).1 (g.andW e a b).2.1)) := by
  refine calls_x mixed Tryz.func214 b214 n214 rfl q214 (by simp) ?_; unfold c214 r214
  by_cases he : e = 0
  · subst he
    obtain ⟨hfine, ha, hb⟩ := hok rfl
    have hs := hfine.toSmall
    have hcn := hfine.cnt
    have ha' := litN_iff.1 ha
    have hb' := litN_iff.1 hb
    have hcnt : 0 ≤ g.count ∧ g.count ≤ 3000000 := by
      have := hs.lo; have := hs.hi; have := hs.flops; have := hs.ands
      unfold Aig.count; omega
    have hfst : 0 ≤ g.first ∧ g.first ≤ 3000000 := by
      have := hs.lo; have := hs.hi; have := hs.flops
      unfold Aig.first; omega
    have hfb := idxF_bounds (fun x : Int × Int => decide (min x.1 x.2 = min a b) && decide (max x.1 x.2 = max a b)) g.ands
    have hal := hs.ands
    have hpush : ∀ x : Int × Int, I64 x.1 ∧ I64 x.2 → g.ands.length < 1000000 → Small { g with ands := g.ands ++ [x] } := fun x hx hl => { hs with
      ands := by simp; omega
      gates := fun y hy => by
        rcases List.mem_append.1 hy with h | h
        · exact hs.gates y h
        · simp at h; subst h; exact hx }
    repeat' (first | simp (maxDischargeDepth := 9) -implicitDefEqProofs -dsimp only [go_sem, seval, ge_iff_le, *] | simp (disch := omega) only [wrap64, xor1] | (with_reducible (first | apply Zc | apply Zf | apply Zl) <;> intro hq) | ((with_reducible refine Zv ?_ ?_); focus (first | omega | exact rfl)) | ((with_reducible refine Zt (fun oF hoF hnF hnF' => ?_)); (try simp only [upd_none, ne_eq, not_and] at hoF)) | ((with_reducible apply ACalls.one1); (focus ((first | with_reducible refine aig_count o g 0 _ ?_ hs | with_reducible refine aig_first o g 0 _ ?_ hs | with_reducible refine sl_indexGate (fun x : Int × Int => decide (min x.1 x.2 = min a b) && decide (max x.1 x.2 = max a b)) g.ands ?_ _ (fun x _ => aig_and1 _ _ x (min a b) (max a b) _ ?_ ?_) | with_reducible refine sl_clipGate g.ands _) <;> (first | (simp (maxDischargeDepth := 9) -implicitDefEqProofs -dsimp only [go_sem, seval, *]; done) | omega))); (focus (first | trivial | with_reducible exact rfl | (simp (maxDischargeDepth := 9) -implicitDefEqProofs -dsimp only [go_sem, seval]; done)))) | ((with_reducible apply id_one0); (focus (intro tS hS; ((first | with_reducible refine aig_count o g 0 _ ?_ hs | with_reducible refine aig_first o g 0 _ ?_ hs | with_reducible refine sl_indexGate (fun x : Int × Int => decide (min x.1 x.2 = min a b) && decide (max x.1 x.2 = max a b)) g.ands ?_ _ (fun x _ => aig_and1 _ _ x (min a b) (max a b) _ ?_ ?_) | with_reducible refine sl_clipGate g.ands _) <;> (first | (simp (maxDischargeDepth := 9) -implicitDefEqProofs -dsimp only [go_sem, seval, *]; done) | omega | ((with_reducible refine Sub.get hS ?_); simp (maxDischargeDepth := 9) -implicitDefEqProofs -dsimp only [go_sem, seval, *]; done))))); (focus (first | trivial | (simp (maxDischargeDepth := 9) -implicitDefEqProofs -dsimp only [go_sem, seval, *]; done)))))
    all_goals try refine fin_eq ?_
    all_goals first | (rw [andW1 (by omega)]; (repeat' (first | simp (maxDischargeDepth := 9) -implicitDefEqProofs -dsimp only [go_sem, seval, *] | simp (disch := omega) only [wrap64, xor1])) <;> (repeat' refine And.intro ?_ ?_) <;> (first | omega | rfl | assumption | skip)) | (rw [andW2 (by omega) (by omega)]; (repeat' (first | simp (maxDischargeDepth := 9) -implicitDefEqProofs -dsimp only [go_sem, seval, *] | simp (disch := omega) only [wrap64, xor1])) <;> (repeat' refine And.intro ?_ ?_) <;> (first | omega | rfl | assumption | skip)) | (rw [andW3 (by omega) (by omega) hq]; (repeat' (first | simp (maxDischargeDepth := 9) -implicitDefEqProofs -dsimp only [go_sem, seval, *] | simp (disch := omega) only [wrap64, xor1])) <;> (repeat' refine And.intro ?_ ?_) <;> (first | omega | rfl | assumption | skip)) | (rw [andW4 (by omega) (by omega) ‹_› (by omega)]; (repeat' (first | simp (maxDischargeDepth := 9) -implicitDefEqProofs -dsimp only [go_sem, seval, *] | simp (disch := omega) only [wrap64, xor1])) <;> (repeat' refine And.intro ?_ ?_) <;> (first | omega | rfl | assumption | skip)) | skip
    have hlt : g.ands.length < 1000000 := by
      have := hs.lo
      simp only [Aig.count] at hcn
      omega
    have hs' := hpush (min a b, max a b) ⟨⟨by omega, by omega⟩, ⟨by omega, by omega⟩⟩ hlt
    refine ACalls.one (ACalls.flo (o := o) (x0 := workC { g with ands := g.ands ++ [(min a b, max a b)] } 0) ?_ (aig_count o { g with ands := g.ands ++ [(min a b, max a b)] } 0 _ (upd_same _ _ _) hs')) ?_
    · (repeat' (first | simp (maxDischargeDepth := 9) -implicitDefEqProofs -dsimp only [go_sem, seval, *] | simp (disch := omega) only [wrap64, xor1])) <;> (repeat' refine And.intro ?_ ?_) <;> (first | omega | rfl | assumption | skip)
    have hc' := count_push (g := g) (min a b, max a b)
    repeat' (first | simp (maxDischargeDepth := 9) -implicitDefEqProofs -dsimp only [go_sem, seval, *] | simp (disch := omega) only [wrap64, xor1] | (with_reducible (first | apply Zc | apply Zf | apply Zl) <;> intro hq) | ((with_reducible refine Zv ?_ ?_); focus (first | omega | exact rfl)) | ((with_reducible refine Zt (fun oF hoF hnF hnF' => ?_)); (try simp only [upd_none, ne_eq, not_and] at hoF)))
    refine fin_eq ?_
    rw [andW5 (by omega) (by omega) ‹_› (by omega)]
    (repeat' (first | simp (maxDischargeDepth := 9) -implicitDefEqProofs -dsimp only [go_sem, seval, *] | simp (disch := omega) only [wrap64, xor1])) <;> (repeat' refine And.intro ?_ ?_) <;> (first | omega | rfl | assumption | skip)
  · have hb : (e != 0) = true := by simpa using he
    repeat' (first | simp (maxDischargeDepth := 9) -implicitDefEqProofs -dsimp only [go_sem, seval, *] | simp (disch := omega) only [wrap64, xor1] | (with_reducible (first | apply Zc | apply Zf | apply Zl) <;> intro hq) | ((with_reducible refine Zv ?_ ?_); focus (first | omega | exact rfl)) | ((with_reducible refine Zt (fun oF hoF hnF hnF' => ?_)); (try simp only [upd_none, ne_eq, not_and] at hoF)))
    refine fin_eq ?_
    (repeat' (first | simp (maxDischargeDepth := 9) -implicitDefEqProofs -dsimp only [go_sem, seval, Aig.andW, *] | simp (disch := omega) only [wrap64, xor1])) <;> (repeat' refine And.intro ?_ ?_) <;> (first | omega | rfl | assumption | skip)
theorem aig_or (o : Nat) (g : Aig) (e a b : Int) (σ : Sig) (h : σ o = some (workC g e)) (ha : I64 a) (hb : I64 b) (hok : e = 0 → Fine g ∧ g.lit a = true ∧ g.lit b = true) :
    ACalls Tryz.prog 215 [.ptr o 0, .int .i64 a, .int .i64 b] σ (fun r σ' => r = .ret (.int .i64 (g.orW e a b).2.2) ∧ σ' = upd σ o (workC (g.orW e a b).1 (g.orW e a b).2.1)) := by
  refine calls_x mixed Tryz.func215 b215 n215 rfl q215 (by simp) ?_; unfold c215 r215
  have hok' : e = 0 → Fine g ∧ g.lit (turn a) = true ∧ g.lit (turn b) = true := fun he => ⟨(hok he).1, turn_lit (hok he).2.1, turn_lit (hok he).2.2⟩
  obtain ⟨h1, h2⟩ := andW_range hok'
  obtain ⟨ha1, ha2⟩ := ha
  obtain ⟨hb1, hb2⟩ := hb
  repeat' (first | simp (maxDischargeDepth := 9) -implicitDefEqProofs -dsimp only [go_sem, seval, *] | simp (disch := omega) only [xor1] | ((with_reducible apply ACalls.one1); (focus ((first | with_reducible refine aig_and o g e (turn a) (turn b) _ ?_ hok') <;> (first | (simp (maxDischargeDepth := 9) -implicitDefEqProofs -dsimp only [go_sem, seval, *]; done) | omega))); (focus (first | trivial | with_reducible exact rfl | (simp (maxDischargeDepth := 9) -implicitDefEqProofs -dsimp only [go_sem, seval]; done)))))
  exact fin_id ⟨rfl, rfl⟩
theorem aig_end (o : Nat) (g : Aig) (e a : Int) (σ : Sig) (h : σ o = some (workC g e)) :
    ACalls Tryz.prog 213 [.ptr o 0, .int .i64 a] σ (fun r σ' => r = .ret (.tup [encAig (Aig.endW (g, e, a)).1, .int .i64 (Aig.endW (g, e, a)).2.1, .int .i64 (Aig.endW (g, e, a)).2.2]) ∧ σ' = σ) := by
  refine calls_x mixed Tryz.func213 b213 n213 rfl q213 (by simp) ?_; unfold c213 r213
  repeat' (first | simp (maxDischargeDepth := 9) -implicitDefEqProofs -dsimp only [go_sem, seval, *] | (with_reducible (first | apply Zi) <;> intro hq) | ((with_reducible refine Zt (fun oF hoF hnF hnF' => ?_)); (try simp only [upd_none, ne_eq, not_and] at hoF)))
  · refine fin_eq ?_
    (repeat' (first | simp (maxDischargeDepth := 9) -implicitDefEqProofs -dsimp only [go_sem, seval, Aig.endW, *])) <;> (repeat' refine And.intro ?_ ?_) <;> (first | omega | rfl | assumption | skip)
  · refine fin_eq ?_
    (repeat' (first | simp (maxDischargeDepth := 9) -implicitDefEqProofs -dsimp only [go_sem, seval, Aig.endW, *])) <;> (repeat' refine And.intro ?_ ?_) <;> (first | omega | rfl | assumption | skip)
end Go.Proofs.YtbbihmmobfmadaaGreat.A

namespace Go.Proofs.YtbbihmmobfmadaaGreat.A
open Abs Fil
theorem aig_And (g : Aig) (a b : Int) (σ : Sig) (hs : Wf g) (ha : I64 a) (hb : I64 b) :
    ACalls Tryz.prog 165 [encAig g, .int .i64 a, .int .i64 b] σ (fun r σ' => r = .ret (.tup [encAig (g.And a b).1, .int .i64 (g.And a b).2.1, .int .i64 (g.And a b).2.2]) ∧ σ' = σ) := by
  refine calls_x mixed Tryz.func165 b165 n165 rfl q165 (by simp) ?_; unfold c165 r165
  have hok : g.checkL g.check [a, b] = 0 → Fine g ∧ g.lit a = true ∧ g.lit b = true := fun h => by
    obtain ⟨h1, h2⟩ := checkL_fine hs h
    exact ⟨h1, h2 a (by simp), h2 b (by simp)⟩
  have hl : ∀ x ∈ [a, b], I64 x := by simp [ha, hb]
  repeat' (first | simp (maxDischargeDepth := 9) -implicitDefEqProofs -dsimp only [go_sem, seval, *] | ((with_reducible refine Zt (fun oF hoF hnF hnF' => ?_)); (try simp only [upd_none, ne_eq, not_and] at hoF)) | ((with_reducible apply ACalls.one1); (focus (first | ((first | with_reducible refine aig_and _ g (g.checkL g.check [a, b]) a b _ ?_ hok | with_reducible refine aig_end _ (g.andW (g.checkL g.check [a, b]) a b).1 (g.andW (g.checkL g.check [a, b]) a b).2.1 _ _ ?_) <;> (first | (simp (maxDischargeDepth := 9) -implicitDefEqProofs -dsimp only [go_sem, seval, *]; done) | omega)) | (with_reducible refine ACalls.flA (aig_and _ g (g.checkL g.check [a, b]) a b _ ?_ hok) ?_ <;> (first | (simp (maxDischargeDepth := 9) -implicitDefEqProofs -dsimp only [go_sem, seval, *]; done) | omega)) | (with_reducible refine ACalls.flA (aig_end _ (g.andW (g.checkL g.check [a, b]) a b).1 (g.andW (g.checkL g.check [a, b]) a b).2.1 _ _ ?_) ?_ <;> (first | (simp (maxDischargeDepth := 9) -implicitDefEqProofs -dsimp only [go_sem, seval, *]; done) | omega)))); (focus (first | trivial | with_reducible exact rfl | (simp (maxDischargeDepth := 9) -implicitDefEqProofs -dsimp only [go_sem, seval]; done)))) | ((with_reducible apply ACalls.newO); (focus (first | ((first | with_reducible refine aig_begin g [a, b] _ hs ?_ hl) <;> (first | (simp (maxDischargeDepth := 9) -implicitDefEqProofs -dsimp only [go_sem, seval, *]; done) | omega)) | (with_reducible refine ACalls.flA (aig_begin g [a, b] _ hs ?_ hl) ?_ <;> (first | (simp (maxDischargeDepth := 9) -implicitDefEqProofs -dsimp only [go_sem, seval, *]; done) | omega)))); (intro oF hoF hnF hnF'); (try simp only [upd_none, ne_eq, not_and] at hoF)))
  refine fin_eq ?_
  (repeat' (first | simp (maxDischargeDepth := 9) -implicitDefEqProofs -dsimp only [go_sem, seval, Aig.And, *])) <;> (repeat' refine And.intro ?_ ?_) <;> (first | omega | rfl | assumption | skip)
theorem aig_Or (g : Aig) (a b : Int) (σ : Sig) (hs : Wf g) (ha : I64 a) (hb : I64 b) :
    ACalls Tryz.prog 174 [encAig g, .int .i64 a, .int .i64 b] σ (fun r σ' => r = .ret (.tup [encAig (g.Or a b).1, .int .i64 (g.Or a b).2.1, .int .i64 (g.Or a b).2.2]) ∧ σ' = σ) := by
  refine calls_x mixed Tryz.func174 b174 n174 rfl q174 (by simp) ?_; unfold c174 r174
  have hok : g.checkL g.check [a, b] = 0 → Fine g ∧ g.lit a = true ∧ g.lit b = true := fun h => by
    obtain ⟨h1, h2⟩ := checkL_fine hs h
    exact ⟨h1, h2 a (by simp), h2 b (by simp)⟩
  have hl : ∀ x ∈ [a, b], I64 x := by simp [ha, hb]
  repeat' (first | simp (maxDischargeDepth := 9) -implicitDefEqProofs -dsimp only [go_sem, seval, *] | ((with_reducible refine Zt (fun oF hoF hnF hnF' => ?_)); (try simp only [upd_none, ne_eq, not_and] at hoF)) | ((with_reducible apply ACalls.one1); (focus (first | ((first | with_reducible refine aig_or _ g (g.checkL g.check [a, b]) a b _ ?_ ha hb hok | with_reducible refine aig_end _ (g.orW (g.checkL g.check [a, b]) a b).1 (g.orW (g.checkL g.check [a, b]) a b).2.1 _ _ ?_) <;> (first | (simp (maxDischargeDepth := 9) -implicitDefEqProofs -dsimp only [go_sem, seval, *]; done) | omega)) | (with_reducible refine ACalls.flA (aig_or _ g (g.checkL g.check [a, b]) a b _ ?_ ha hb hok) ?_ <;> (first | (simp (maxDischargeDepth := 9) -implicitDefEqProofs -dsimp only [go_sem, seval, *]; done) | omega)) | (with_reducible refine ACalls.flA (aig_end _ (g.orW (g.checkL g.check [a, b]) a b).1 (g.orW (g.checkL g.check [a, b]) a b).2.1 _ _ ?_) ?_ <;> (first | (simp (maxDischargeDepth := 9) -implicitDefEqProofs -dsimp only [go_sem, seval, *]; done) | omega)))); (focus (first | trivial | with_reducible exact rfl | (simp (maxDischargeDepth := 9) -implicitDefEqProofs -dsimp only [go_sem, seval]; done)))) | ((with_reducible apply ACalls.newO); (focus (first | ((first | with_reducible refine aig_begin g [a, b] _ hs ?_ hl) <;> (first | (simp (maxDischargeDepth := 9) -implicitDefEqProofs -dsimp only [go_sem, seval, *]; done) | omega)) | (with_reducible refine ACalls.flA (aig_begin g [a, b] _ hs ?_ hl) ?_ <;> (first | (simp (maxDischargeDepth := 9) -implicitDefEqProofs -dsimp only [go_sem, seval, *]; done) | omega)))); (intro oF hoF hnF hnF'); (try simp only [upd_none, ne_eq, not_and] at hoF)))
  refine fin_eq ?_
  (repeat' (first | simp (maxDischargeDepth := 9) -implicitDefEqProofs -dsimp only [go_sem, seval, Aig.Or, *])) <;> (repeat' refine And.intro ?_ ?_) <;> (first | omega | rfl | assumption | skip)
theorem aig_Check (g : Aig) (σ : Sig) (hs : Wf g) : ACalls Tryz.prog 75 [encAig g] σ (fun r σ' => r = .ret (.int .i64 g.check) ∧ σ' = σ) := by
  refine calls_x mixed Tryz.func75 b75 n75 rfl q75 (by simp) ?_; unfold c75 r75
  repeat' (first | simp (maxDischargeDepth := 9) -implicitDefEqProofs -dsimp only [go_sem, seval, *] | ((with_reducible apply ACalls.newO); (focus (first | ((first | with_reducible refine aig_begin g [] _ hs ?_ (by simp)) <;> (first | (simp (maxDischargeDepth := 9) -implicitDefEqProofs -dsimp only [go_sem, seval, *]; done) | omega)) | (with_reducible refine ACalls.flA (aig_begin g [] _ hs ?_ (by simp)) ?_ <;> (first | (simp (maxDischargeDepth := 9) -implicitDefEqProofs -dsimp only [go_sem, seval, *]; done) | omega)))); (intro oF hoF hnF hnF'); (try simp only [upd_none, ne_eq, not_and] at hoF)))
  refine fin_eq ?_
  (repeat' (first | simp (maxDischargeDepth := 9) -implicitDefEqProofs -dsimp only [go_sem, seval, Aig.checkL, *])) <;> (repeat' refine And.intro ?_ ?_) <;> (first | omega | rfl | assumption | skip)
theorem pairs_ok {g : Aig} {e a b c d : Int} (hs : Wf g) (h : e = 0 → Fine g ∧ g.lit a = true ∧ g.lit b = true ∧ g.lit c = true ∧ g.lit d = true) :
    ∃ r s, g.andW e a b = r ∧ r.1.andW r.2.1 c d = s ∧ g.pairs e a b c d = s.1.orW s.2.1 r.2.2 s.2.2 ∧ I64 r.2.2 ∧ I64 s.2.2 ∧ (e = 0 → Fine g ∧ g.lit a = true ∧ g.lit b = true) ∧
      (r.2.1 = 0 → Fine r.1 ∧ r.1.lit c = true ∧ r.1.lit d = true) ∧ (s.2.1 = 0 → Fine s.1 ∧ s.1.lit r.2.2 = true ∧ s.1.lit s.2.2 = true) := by
  have hok : e = 0 → Fine g ∧ g.lit a = true ∧ g.lit b = true := fun he => ⟨(h he).1, (h he).2.1, (h he).2.2.1⟩
  obtain ⟨k1, k2, _⟩ := andW_ok hok
  have hok2 : (g.andW e a b).2.1 = 0 → Fine (g.andW e a b).1 ∧ (g.andW e a b).1.lit c = true ∧ (g.andW e a b).1.lit d = true := fun hr => by
    obtain ⟨h1, h2, h3, h4, h5⟩ := h (andW_err hr)
    exact ⟨(k1 hr).1, k2.lit h4, k2.lit h5⟩
  obtain ⟨m1, m2, _⟩ := andW_ok hok2
  exact ⟨_, _, rfl, rfl, rfl, andW_range hok, andW_range hok2, hok, hok2, fun hs => ⟨(m1 hs).1, m2.lit (k1 (andW_err hs)).2, (m1 hs).2⟩⟩
theorem aig_Xor (g : Aig) (a b : Int) (σ : Sig) (hs : Wf g) (ha : I64 a) (hb : I64 b) :
    ACalls Tryz.prog 168 [encAig g, .int .i64 a, .int .i64 b] σ (fun r σ' => r = .ret (.tup [encAig (g.Xor a b).1, .int .i64 (g.Xor a b).2.1, .int .i64 (g.Xor a b).2.2]) ∧ σ' = σ) := by
  refine calls_x mixed Tryz.func168 b168 n168 rfl q168 (by simp) ?_; unfold c168 r168
  have hl : ∀ x ∈ [a, b], I64 x := by simp [ha, hb]
  obtain ⟨e, he⟩ : ∃ e, g.checkL g.check [a, b] = e := ⟨_, rfl⟩
  obtain ⟨r, s, hr, hss, hp, r1, s1, o1, o2, o3⟩ := pairs_ok (e := e) (a := a) (b := turn b) (c := turn a) (d := b) hs (fun h => by
    obtain ⟨h1, h2⟩ := checkL_fine hs (he.trans h)
    exact ⟨h1, h2 a (by simp), turn_lit (h2 b (by simp)), turn_lit (h2 a (by simp)), h2 b (by simp)⟩)
  obtain ⟨ha1, ha2⟩ := ha
  obtain ⟨hb1, hb2⟩ := hb
  repeat' (first | simp (maxDischargeDepth := 9) -implicitDefEqProofs -dsimp only [go_sem, seval, *] | simp (disch := omega) only [xor1] | ((with_reducible refine Zt (fun oF hoF hnF hnF' => ?_)); (try simp only [upd_none, ne_eq, not_and] at hoF)) | ((with_reducible apply ACalls.one1); (focus (first | ((first | with_reducible refine aig_and _ g e a (turn b) _ ?_ o1 | with_reducible refine aig_and _ r.1 r.2.1 (turn a) b _ ?_ o2 | with_reducible refine aig_or _ s.1 s.2.1 r.2.2 s.2.2 _ ?_ r1 s1 o3 | with_reducible refine aig_end _ (s.1.orW s.2.1 r.2.2 s.2.2).1 (s.1.orW s.2.1 r.2.2 s.2.2).2.1 _ _ ?_) <;> (first | (simp (maxDischargeDepth := 9) -implicitDefEqProofs -dsimp only [go_sem, seval, *]; done) | omega)) | (with_reducible refine ACalls.flA (aig_and _ g e a (turn b) _ ?_ o1) ?_ <;> (first | (simp (maxDischargeDepth := 9) -implicitDefEqProofs -dsimp only [go_sem, seval, *]; done) | omega)) | (with_reducible refine ACalls.flA (aig_and _ r.1 r.2.1 (turn a) b _ ?_ o2) ?_ <;> (first | (simp (maxDischargeDepth := 9) -implicitDefEqProofs -dsimp only [go_sem, seval, *]; done) | omega)) | (with_reducible refine ACalls.flA (aig_or _ s.1 s.2.1 r.2.2 s.2.2 _ ?_ r1 s1 o3) ?_ <;> (first | (simp (maxDischargeDepth := 9) -implicitDefEqProofs -dsimp only [go_sem, seval, *]; done) | omega)) | (with_reducible refine ACalls.flA (aig_end _ (s.1.orW s.2.1 r.2.2 s.2.2).1 (s.1.orW s.2.1 r.2.2 s.2.2).2.1 _ _ ?_) ?_ <;> (first | (simp (maxDischargeDepth := 9) -implicitDefEqProofs -dsimp only [go_sem, seval, *]; done) | omega)))); (focus (first | trivial | with_reducible exact rfl | (simp (maxDischargeDepth := 9) -implicitDefEqProofs -dsimp only [go_sem, seval]; done)))) | ((with_reducible apply ACalls.newO); (focus (first | ((first | with_reducible refine aig_begin g [a, b] _ hs ?_ hl) <;> (first | (simp (maxDischargeDepth := 9) -implicitDefEqProofs -dsimp only [go_sem, seval, *]; done) | omega)) | (with_reducible refine ACalls.flA (aig_begin g [a, b] _ hs ?_ hl) ?_ <;> (first | (simp (maxDischargeDepth := 9) -implicitDefEqProofs -dsimp only [go_sem, seval, *]; done) | omega)))); (intro oF hoF hnF hnF'); (try simp only [upd_none, ne_eq, not_and] at hoF)))
  refine fin_eq ?_
  (repeat' (first | simp (maxDischargeDepth := 9) -implicitDefEqProofs -dsimp only [go_sem, seval, Aig.Xor, *] | simp (disch := omega) only [xor1])) <;> (repeat' refine And.intro ?_ ?_) <;> (first | omega | rfl | assumption | skip)
theorem aig_Mux (g : Aig) (c a b : Int) (σ : Sig) (hs : Wf g) (hc : I64 c) (ha : I64 a) (hb : I64 b) :
    ACalls Tryz.prog 180 [encAig g, .int .i64 c, .int .i64 a, .int .i64 b] σ (fun r σ' => r = .ret (.tup [encAig (g.Mux c a b).1, .int .i64 (g.Mux c a b).2.1, .int .i64 (g.Mux c a b).2.2]) ∧ σ' = σ) := by
  refine calls_x mixed Tryz.func180 b180 n180 rfl q180 (by simp) ?_; unfold c180 r180
  have hl : ∀ x ∈ [c, a, b], I64 x := by simp [ha, hb, hc]
  obtain ⟨e, he⟩ : ∃ e, g.checkL g.check [c, a, b] = e := ⟨_, rfl⟩
  obtain ⟨r, s, hr, hss, hp, r1, s1, o1, o2, o3⟩ := pairs_ok (e := e) (a := c) (b := a) (c := turn c) (d := b) hs (fun h => by
    obtain ⟨h1, h2⟩ := checkL_fine hs (he.trans h)
    exact ⟨h1, h2 c (by simp), h2 a (by simp), turn_lit (h2 c (by simp)), h2 b (by simp)⟩)
  obtain ⟨hc1, hc2⟩ := hc
  repeat' (first | simp (maxDischargeDepth := 9) -implicitDefEqProofs -dsimp only [go_sem, seval, *] | simp (disch := omega) only [xor1] | ((with_reducible refine Zt (fun oF hoF hnF hnF' => ?_)); (try simp only [upd_none, ne_eq, not_and] at hoF)) | ((with_reducible apply ACalls.one1); (focus (first | ((first | with_reducible refine aig_and _ g e c a _ ?_ o1 | with_reducible refine aig_and _ r.1 r.2.1 (turn c) b _ ?_ o2 | with_reducible refine aig_or _ s.1 s.2.1 r.2.2 s.2.2 _ ?_ r1 s1 o3 | with_reducible refine aig_end _ (s.1.orW s.2.1 r.2.2 s.2.2).1 (s.1.orW s.2.1 r.2.2 s.2.2).2.1 _ _ ?_) <;> (first | (simp (maxDischargeDepth := 9) -implicitDefEqProofs -dsimp only [go_sem, seval, *]; done) | omega)) | (with_reducible refine ACalls.flA (aig_and _ g e c a _ ?_ o1) ?_ <;> (first | (simp (maxDischargeDepth := 9) -implicitDefEqProofs -dsimp only [go_sem, seval, *]; done) | omega)) | (with_reducible refine ACalls.flA (aig_and _ r.1 r.2.1 (turn c) b _ ?_ o2) ?_ <;> (first | (simp (maxDischargeDepth := 9) -implicitDefEqProofs -dsimp only [go_sem, seval, *]; done) | omega)) | (with_reducible refine ACalls.flA (aig_or _ s.1 s.2.1 r.2.2 s.2.2 _ ?_ r1 s1 o3) ?_ <;> (first | (simp (maxDischargeDepth := 9) -implicitDefEqProofs -dsimp only [go_sem, seval, *]; done) | omega)) | (with_reducible refine ACalls.flA (aig_end _ (s.1.orW s.2.1 r.2.2 s.2.2).1 (s.1.orW s.2.1 r.2.2 s.2.2).2.1 _ _ ?_) ?_ <;> (first | (simp (maxDischargeDepth := 9) -implicitDefEqProofs -dsimp only [go_sem, seval, *]; done) | omega)))); (focus (first | trivial | with_reducible exact rfl | (simp (maxDischargeDepth := 9) -implicitDefEqProofs -dsimp only [go_sem, seval]; done)))) | ((with_reducible apply ACalls.newO); (focus (first | ((first | with_reducible refine aig_begin g [c, a, b] _ hs ?_ hl) <;> (first | (simp (maxDischargeDepth := 9) -implicitDefEqProofs -dsimp only [go_sem, seval, *]; done) | omega)) | (with_reducible refine ACalls.flA (aig_begin g [c, a, b] _ hs ?_ hl) ?_ <;> (first | (simp (maxDischargeDepth := 9) -implicitDefEqProofs -dsimp only [go_sem, seval, *]; done) | omega)))); (intro oF hoF hnF hnF'); (try simp only [upd_none, ne_eq, not_and] at hoF)))
  refine fin_eq ?_
  (repeat' (first | simp (maxDischargeDepth := 9) -implicitDefEqProofs -dsimp only [go_sem, seval, Aig.Mux, *] | simp (disch := omega) only [xor1])) <;> (repeat' refine And.intro ?_ ?_) <;> (first | omega | rfl | assumption | skip)
theorem aig_New (ins : Int) (init : List Bool) (σ : Sig) (hi : I64 ins) (hl : init.length ≤ 1000000) :
    ACalls Tryz.prog 29 [.int .i64 ins, .slice (init.map encBool) .no] σ (fun r σ' => r = .ret (.tup [encAig (Aig.New ins init).1, .int .i64 (Aig.New ins init).2]) ∧ σ' = σ) := by
  refine ACalls.virt (callable_of Tryz.func29 b29 n29) 2 (fun oV1 hoV1 hnV1 hnV1' => ?_); (try simp only [upd_none, ne_eq, not_and] at hoV1); refine calls_x mixed Tryz.func29 b29 n29 rfl q29 (by simp) ?_; unfold c29 r29
  obtain ⟨hi1, hi2⟩ := hi
  by_cases h0 : ins < 0
  · have hv : Aig.New ins init = (⟨0, [], [], []⟩, 1) := by simp [Aig.New, *]
    repeat' (first | simp (maxDischargeDepth := 9) -implicitDefEqProofs -dsimp only [go_sem, seval, *] | simp (disch := omega) only [wrap64] | ((with_reducible refine Zv ?_ ?_); focus (first | omega | exact rfl)) | ((with_reducible refine Zu ?_ ?_); focus omega) | ((with_reducible refine Zt (fun oF hoF hnF hnF' => ?_)); (try simp only [upd_none, ne_eq, not_and] at hoF)))
    refine fin_eq ?_
    (repeat' (first | simp (maxDischargeDepth := 9) -implicitDefEqProofs -dsimp only [go_sem, seval, *] | simp (disch := omega) only [wrap64])) <;> (repeat' refine And.intro ?_ ?_) <;> (first | omega | rfl | assumption | skip)
  by_cases h1 : 65536 - (init.length : Int) < ins
  · have hv : Aig.New ins init = (⟨0, [], [], []⟩, 2) := by simp only [Aig.New, h0, if_false]; rw [if_pos (by omega)]
    repeat' (first | simp (maxDischargeDepth := 9) -implicitDefEqProofs -dsimp only [go_sem, seval, gt_iff_lt, *] | simp (disch := omega) only [wrap64] | ((with_reducible refine Zv ?_ ?_); focus (first | omega | exact rfl)) | ((with_reducible refine Zu ?_ ?_); focus omega) | ((with_reducible refine Zt (fun oF hoF hnF hnF' => ?_)); (try simp only [upd_none, ne_eq, not_and] at hoF)))
    refine fin_eq ?_
    (repeat' (first | simp (maxDischargeDepth := 9) -implicitDefEqProofs -dsimp only [go_sem, seval, *] | simp (disch := omega) only [wrap64])) <;> (repeat' refine And.intro ?_ ?_) <;> (first | omega | rfl | assumption | skip)
  have hv : Aig.New ins init = (⟨ins, init.map fun b => ⟨0, b⟩, [], []⟩, 0) := by simp only [Aig.New, h0, if_false]; rw [if_neg (by omega)]
  repeat' (first | simp (maxDischargeDepth := 9) -implicitDefEqProofs -dsimp only [go_sem, seval, gt_iff_lt, *] | simp (disch := omega) only [wrap64] | ((with_reducible refine Zv ?_ ?_); focus (first | omega | exact rfl)) | ((with_reducible refine Zu ?_ ?_); focus omega) | ((with_reducible refine Zt (fun oF hoF hnF hnF' => ?_)); (try simp only [upd_none, ne_eq, not_and] at hoF)))
  rename_i o4 ho4 hn4 hn4'
  refine loop_rule (fun i : Nat => [(4, some (.ptr o4 0)), (6, some (.ptr oF 0)), (22, some (.slice (init.map encBool) .no)), (23, some (.int .i64 init.length)), (24, some (.int .i64 i))])
    (fun i => upd (upd (upd σ oV1 (.grow 2 i)) o4 (.cells [.int .i64 0, .slice [] .nil, .slice [] .nil, .slice [] .nil])) oF (.cells [.int .i64 ins, .slice ((init.take i).map fun b => encFlop ⟨0, b⟩) (.own oV1), .slice [] .nil, .slice [] .nil])) (fun i => i ≤ init.length) (fun i => init.length - i) 0 ?_ ?_
  · (repeat' (first | simp (maxDischargeDepth := 9) -implicitDefEqProofs -dsimp only [go_sem, seval, *] | simp (disch := omega) only [wrap64])) <;> (repeat' refine And.intro ?_ ?_) <;> (first | omega | rfl | assumption | skip)
  · intro i hi'
    by_cases hlt : i < init.length
    · have hs := take_succ hlt
      have hlen : (init.take i).length = i := by simp; omega
      have hz : ∀ l : List Bool, szs 2 (l.map fun b => encFlop ⟨0, b⟩) = True := fun l => szs_map _ _ _ fun _ => rfl
      repeat' (first | simp (maxDischargeDepth := 9) -implicitDefEqProofs -dsimp only [go_sem, seval, hz, *] | simp (disch := omega) only [wrap64] | ((with_reducible refine Zv ?_ ?_); focus (first | omega | exact rfl)) | ((with_reducible refine Zu ?_ ?_); focus omega) | ((with_reducible refine Zt (fun oF hoF hnF hnF' => ?_)); (try simp only [upd_none, ne_eq, not_and] at hoF)))
      refine loop_next _ _ _ _ (i + 1) ?_; (repeat' (first | simp (maxDischargeDepth := 9) -implicitDefEqProofs -dsimp only [go_sem, seval, *] | simp (disch := omega) only [wrap64])) <;> (repeat' refine And.intro ?_ ?_) <;> (first | omega | rfl | assumption | skip)
    · repeat' (first | simp (maxDischargeDepth := 9) -implicitDefEqProofs -dsimp only [go_sem, seval, *] | simp (disch := omega) only [wrap64] | ((with_reducible refine Zv ?_ ?_); focus (first | omega | exact rfl)) | ((with_reducible refine Zu ?_ ?_); focus omega) | ((with_reducible refine Zt (fun oF hoF hnF hnF' => ?_)); (try simp only [upd_none, ne_eq, not_and] at hoF)))
      refine fin_eq ?_
      have e0 : init.take i = init := List.take_of_length_le (by omega)
      have e1 : (init.map fun b => (⟨0, b⟩ : Flop)).map encFlop = init.map fun b => encFlop ⟨0, b⟩ := by rw [List.map_map]; rfl
      (repeat' (first | simp (maxDischargeDepth := 9) -implicitDefEqProofs -dsimp only [go_sem, seval, e0, e1, *] | simp (disch := omega) only [wrap64])) <;> (repeat' refine And.intro ?_ ?_) <;> (first | omega | rfl | assumption | skip)
end Go.Proofs.YtbbihmmobfmadaaGreat.A

namespace Go.Proofs.YtbbihmmobfmadaaGreat.A
open Abs Fil
theorem ref_Lit (n a : Int) (σ : Sig) (h1 : -1000000000 ≤ n) (h2 : n ≤ 1000000000) : ACalls Tryz.prog 80 [.int .i64 n, .int .i64 a] σ (fun r σ' => r = .ret (.bool (Aig.litN n a)) ∧ σ' = σ) := by
  refine calls_x mixed Tryz.func80 b80 n80 rfl q80 (by simp) ?_; unfold c80 r80
  repeat' (first | simp (maxDischargeDepth := 9) -implicitDefEqProofs -dsimp only [go_sem, seval, ge_iff_le, *] | simp (disch := omega) only [wrap64] | (with_reducible (first | apply Za) <;> intro hq))
  · refine fin_eq ?_
    (repeat' (first | simp (maxDischargeDepth := 9) -implicitDefEqProofs -dsimp only [go_sem, seval, Aig.litN, *] | simp (disch := omega) only [wrap64])) <;> (repeat' refine And.intro ?_ ?_) <;> (first | omega | rfl | assumption | skip)
  · refine fin_eq ?_
    (repeat' (first | simp (maxDischargeDepth := 9) -implicitDefEqProofs -dsimp only [go_sem, seval, Aig.litN, *] | simp (disch := omega) only [wrap64])) <;> (repeat' refine And.intro ?_ ?_) <;> (first | omega | rfl | assumption | skip)
theorem ref_Count (g : Aig) (σ : Sig) (hs : Small g) : ACalls Tryz.prog 81 [encAig g] σ (fun r σ' => r = .ret (.int .i64 (1 + g.count)) ∧ σ' = σ) := by
  refine calls_x mixed Tryz.func81 b81 n81 rfl q81 (by simp) ?_; unfold c81 r81
  obtain ⟨⟨h0, h1, h2, h3, h4, h5, h6⟩, h7, h8⟩ := hs
  repeat' (first | simp (maxDischargeDepth := 9) -implicitDefEqProofs -dsimp only [go_sem, seval, *] | simp (disch := omega) only [wrap64])
  exact fin_id ⟨by simp only [Aig.count, Int.add_assoc], rfl⟩
theorem ref_Check (g : Aig) (σ : Sig) (hs : Wf g) : ACalls Tryz.prog 40 [encAig g] σ (fun r σ' => r = .ret (.int .i64 g.check) ∧ σ' = σ) := by
  refine calls_x mixed Tryz.func40 b40 n40 rfl q40 (by simp) ?_; unfold c40 r40
  have hfl := hs.flops
  have hal := hs.ands
  have hol := hs.outs
  by_cases hlo : g.ins < 0
  · have hv : g.check = 1 := by simp [Aig.check, hlo]
    repeat' (first | simp (maxDischargeDepth := 9) -implicitDefEqProofs -dsimp only [go_sem, seval, *] | simp (disch := omega) only [wrap64] | (with_reducible (first | apply Zb | apply Zc | apply Zp | apply Zr) <;> intro hq) | ((with_reducible refine Zu ?_ ?_); focus omega))
    refine fin_eq ?_
    (repeat' (first | simp (maxDischargeDepth := 9) -implicitDefEqProofs -dsimp only [go_sem, seval, *] | simp (disch := omega) only [wrap64])) <;> (repeat' refine And.intro ?_ ?_) <;> (first | omega | rfl | assumption | skip)
  by_cases hhi : 65536 < g.ins
  · have hv : g.check = 2 := by simp [Aig.check, hlo, hhi]
    repeat' (first | simp (maxDischargeDepth := 9) -implicitDefEqProofs -dsimp only [go_sem, seval, gt_iff_lt, *] | simp (disch := omega) only [wrap64] | (with_reducible (first | apply Zb | apply Zc | apply Zp | apply Zr) <;> intro hq) | ((with_reducible refine Zu ?_ ?_); focus omega))
    refine fin_eq ?_
    (repeat' (first | simp (maxDischargeDepth := 9) -implicitDefEqProofs -dsimp only [go_sem, seval, *] | simp (disch := omega) only [wrap64])) <;> (repeat' refine And.intro ?_ ?_) <;> (first | omega | rfl | assumption | skip)
  have hsm : Small g := ⟨hs, by omega, by omega⟩
  by_cases hb : 65536 < g.count ∨ 65536 < (g.outs.length : Int)
  · have hv : g.check = 2 := by simp [Aig.check, hlo, hhi, hb]
    have hb' : 65536 < g.ins + g.flops.length + g.ands.length ∨ 65536 < (g.outs.length : Int) := hb
    repeat' (first | simp (maxDischargeDepth := 9) -implicitDefEqProofs -dsimp only [go_sem, seval, gt_iff_lt, *] | simp (disch := omega) only [wrap64] | (with_reducible (first | apply Zb | apply Zc | apply Zp | apply Zr) <;> intro hq) | ((with_reducible refine Zu ?_ ?_); focus omega))
    all_goals first | (exfalso; omega) | (refine fin_eq ?_; (repeat' (first | simp (maxDischargeDepth := 9) -implicitDefEqProofs -dsimp only [go_sem, seval, *] | simp (disch := omega) only [wrap64])) <;> (repeat' refine And.intro ?_ ?_) <;> (first | omega | rfl | assumption | skip))
  have hv : g.check = if g.good then 0 else 1 := by simp [Aig.check, hlo, hhi, hb]
  have hcnt : g.ins + g.flops.length + g.ands.length ≤ 65536 ∧ (g.outs.length : Int) ≤ 65536 := by
    unfold Aig.count at hb; omega
  have hc1 : 0 ≤ g.count ∧ g.count ≤ 65536 := by unfold Aig.count; omega
  have bad1 : ∀ i, (h : i < g.ands.length) → ¬ (Aig.litN (1 + g.ins + g.flops.length + i) g.ands[i].1 = true ∧ Aig.litN (1 + g.ins + g.flops.length + i) g.ands[i].2 = true) → g.good = false := fun i h hn => by
    have : Aig.gatesOk g.first g.ands = false := gatesOk_false h (fun ⟨k1, k2⟩ => hn ⟨litN_iff.2 (by unfold Aig.first at k1; omega), litN_iff.2 (by unfold Aig.first at k2; omega)⟩)
    simp [Aig.good, this]
  have bad2 : ∀ i, (h : i < g.flops.length) → Aig.litN (1 + g.count) g.flops[i].next = false → g.good = false := fun i h hn => by
    have : (g.flops.any fun f => !g.lit f.next) = true := by simp only [List.any_eq_true]; exact ⟨_, List.getElem_mem h, by simp [Aig.lit, hn]⟩
    simp [Aig.good, this]
  have bad3 : ∀ i, (h : i < g.outs.length) → Aig.litN (1 + g.count) g.outs[i] = false → g.good = false := fun i h hn => by
    have : (g.outs.any fun a => !g.lit a) = true := by simp only [List.any_eq_true]; exact ⟨_, List.getElem_mem h, by simp [Aig.lit, hn]⟩
    simp [Aig.good, this]
  have hb2 : ¬ 65536 < (g.outs.length : Int) := by omega
  have hb3 : ¬ 65536 < g.ins + g.flops.length + g.ands.length := by omega
  repeat' (first | simp (maxDischargeDepth := 9) -implicitDefEqProofs -dsimp only [go_sem, seval, gt_iff_lt, *] | simp (disch := omega) only [wrap64] | (with_reducible (first | apply Zb | apply Zc | apply Zp | apply Zr) <;> intro hq) | ((with_reducible refine Zu ?_ ?_); focus omega))
  refine loop_rule (fun i : Nat => [(4, some (.int .i64 i)), (1, some (.cptr (aigL g))), (3, some (.int .i64 (1 + g.ins + g.flops.length)))]) (fun _ => σ)
    (fun i => i ≤ g.ands.length ∧ ∀ j, (hj : j < g.ands.length) → j < i → Aig.litN (1 + g.ins + g.flops.length + j) g.ands[j].1 = true ∧ Aig.litN (1 + g.ins + g.flops.length + j) g.ands[j].2 = true) (fun i => g.ands.length - i) 0 ?_ ?_
  · (repeat' (first | simp (maxDischargeDepth := 9) -implicitDefEqProofs -dsimp only [go_sem, seval, *] | simp (disch := omega) only [wrap64])) <;> (repeat' refine And.intro ?_ ?_) <;> (first | omega | rfl | assumption | skip)
  · rintro i ⟨hi, hok1⟩
    by_cases hlt : i < g.ands.length
    · have hgb := bad1 i hlt
      clear bad1 bad2 bad3
      repeat' (first | simp (maxDischargeDepth := 9) -implicitDefEqProofs -dsimp only [go_sem, seval, *] | simp (disch := omega) only [wrap64] | (with_reducible (first | apply Zb | apply Zc | apply Zp | apply Zr) <;> intro hq) | ((with_reducible refine Zu ?_ ?_); focus omega) | ((with_reducible apply ACalls.one1); (focus ((first | with_reducible refine ref_Lit (1 + g.ins + g.flops.length + i) g.ands[i].1 _ ?_ ?_ | with_reducible refine ref_Lit (1 + g.ins + g.flops.length + i) g.ands[i].2 _ ?_ ?_) <;> (first | (simp (maxDischargeDepth := 9) -implicitDefEqProofs -dsimp only [go_sem, seval, *]; done) | omega))); (focus (first | trivial | with_reducible exact rfl | (simp (maxDischargeDepth := 9) -implicitDefEqProofs -dsimp only [go_sem, seval]; done)))))
      all_goals first | (have hx : g.good = false := hgb (by simp [*]); refine fin_eq ?_; (repeat' (first | simp (maxDischargeDepth := 9) -implicitDefEqProofs -dsimp only [go_sem, seval, Bool.false_eq_true, *] | simp (disch := omega) only [wrap64])) <;> (repeat' refine And.intro ?_ ?_) <;> (first | omega | rfl | assumption | skip); done) | skip
      refine loop_next _ _ _ _ (i + 1) ?_; (repeat' (first | simp (maxDischargeDepth := 9) -implicitDefEqProofs -dsimp only [go_sem, seval, *] | simp (disch := omega) only [wrap64])) <;> (repeat' refine And.intro ?_ ?_) <;> (first | omega | rfl | assumption | skip)
      intro j hj h
      rcases Nat.lt_or_ge j i with h' | h'
      · exact hok1 j hj h'
      · obtain rfl : j = i := by omega
        exact ⟨by assumption, by assumption⟩
    · repeat' (first | simp (maxDischargeDepth := 9) -implicitDefEqProofs -dsimp only [go_sem, seval, *] | simp (disch := omega) only [wrap64] | (with_reducible (first | apply Zb | apply Zc | apply Zp | apply Zr) <;> intro hq) | ((with_reducible refine Zu ?_ ?_); focus omega))
      refine loop_rule (fun i : Nat => [(5, some (.int .i64 i)), (1, some (.cptr (aigL g)))]) (fun _ => σ) (fun i => i ≤ g.flops.length ∧ ∀ j, (hj : j < g.flops.length) → j < i → Aig.litN (1 + g.count) g.flops[j].next = true) (fun i => g.flops.length - i) 0 ?_ ?_
      · (repeat' (first | simp (maxDischargeDepth := 9) -implicitDefEqProofs -dsimp only [go_sem, seval, *] | simp (disch := omega) only [wrap64])) <;> (repeat' refine And.intro ?_ ?_) <;> (first | omega | rfl | assumption | skip)
      · rintro k ⟨hk, hok2⟩
        by_cases hlt2 : k < g.flops.length
        · have hgb := bad2 k hlt2
          clear bad1 bad2 bad3
          repeat' (first | simp (maxDischargeDepth := 9) -implicitDefEqProofs -dsimp only [go_sem, seval, *] | simp (disch := omega) only [wrap64] | (with_reducible (first | apply Zb | apply Zc | apply Zp | apply Zr) <;> intro hq) | ((with_reducible refine Zu ?_ ?_); focus omega) | ((with_reducible apply ACalls.one1); (focus ((first | with_reducible refine ref_Count g _ hsm | with_reducible refine ref_Lit (1 + g.count) g.flops[k].next _ ?_ ?_) <;> (first | (simp (maxDischargeDepth := 9) -implicitDefEqProofs -dsimp only [go_sem, seval, *]; done) | omega))); (focus (first | trivial | with_reducible exact rfl | (simp (maxDischargeDepth := 9) -implicitDefEqProofs -dsimp only [go_sem, seval]; done)))) | ((with_reducible apply id_one0); (focus (intro tS hS; ((first | with_reducible refine ref_Count g _ hsm | with_reducible refine ref_Lit (1 + g.count) g.flops[k].next _ ?_ ?_) <;> (first | (simp (maxDischargeDepth := 9) -implicitDefEqProofs -dsimp only [go_sem, seval, *]; done) | omega | ((with_reducible refine Sub.get hS ?_); simp (maxDischargeDepth := 9) -implicitDefEqProofs -dsimp only [go_sem, seval, *]; done))))); (focus (first | trivial | (simp (maxDischargeDepth := 9) -implicitDefEqProofs -dsimp only [go_sem, seval, *]; done)))))
          · refine loop_next _ _ _ _ (k + 1) ?_; (repeat' (first | simp (maxDischargeDepth := 9) -implicitDefEqProofs -dsimp only [go_sem, seval, *] | simp (disch := omega) only [wrap64])) <;> (repeat' refine And.intro ?_ ?_) <;> (first | omega | rfl | assumption | skip)
            intro j hj h
            rcases Nat.lt_or_ge j k with h' | h'
            · exact hok2 j hj h'
            · obtain rfl : j = k := by omega
              assumption
          · have hx := hgb hq
            refine fin_eq ?_
            (repeat' (first | simp (maxDischargeDepth := 9) -implicitDefEqProofs -dsimp only [go_sem, seval, Bool.false_eq_true, *] | simp (disch := omega) only [wrap64])) <;> (repeat' refine And.intro ?_ ?_) <;> (first | omega | rfl | assumption | skip)
        · repeat' (first | simp (maxDischargeDepth := 9) -implicitDefEqProofs -dsimp only [go_sem, seval, *] | simp (disch := omega) only [wrap64] | (with_reducible (first | apply Zb | apply Zc | apply Zp | apply Zr) <;> intro hq) | ((with_reducible refine Zu ?_ ?_); focus omega))
          refine loop_rule (fun i : Nat => [(6, some (.int .i64 i)), (1, some (.cptr (aigL g)))]) (fun _ => σ) (fun i => i ≤ g.outs.length ∧ ∀ j, (hj : j < g.outs.length) → j < i → Aig.litN (1 + g.count) g.outs[j] = true) (fun i => g.outs.length - i) 0 ?_ ?_
          · (repeat' (first | simp (maxDischargeDepth := 9) -implicitDefEqProofs -dsimp only [go_sem, seval, *] | simp (disch := omega) only [wrap64])) <;> (repeat' refine And.intro ?_ ?_) <;> (first | omega | rfl | assumption | skip)
          · rintro m ⟨hm, hok3⟩
            by_cases hlt3 : m < g.outs.length
            · have hgb := bad3 m hlt3
              clear bad1 bad2 bad3
              repeat' (first | simp (maxDischargeDepth := 9) -implicitDefEqProofs -dsimp only [go_sem, seval, *] | simp (disch := omega) only [wrap64] | (with_reducible (first | apply Zb | apply Zc | apply Zp | apply Zr) <;> intro hq) | ((with_reducible refine Zu ?_ ?_); focus omega) | ((with_reducible apply ACalls.one1); (focus ((first | with_reducible refine ref_Count g _ hsm | with_reducible refine ref_Lit (1 + g.count) g.outs[m] _ ?_ ?_) <;> (first | (simp (maxDischargeDepth := 9) -implicitDefEqProofs -dsimp only [go_sem, seval, *]; done) | omega))); (focus (first | trivial | with_reducible exact rfl | (simp (maxDischargeDepth := 9) -implicitDefEqProofs -dsimp only [go_sem, seval]; done)))) | ((with_reducible apply id_one0); (focus (intro tS hS; ((first | with_reducible refine ref_Count g _ hsm | with_reducible refine ref_Lit (1 + g.count) g.outs[m] _ ?_ ?_) <;> (first | (simp (maxDischargeDepth := 9) -implicitDefEqProofs -dsimp only [go_sem, seval, *]; done) | omega | ((with_reducible refine Sub.get hS ?_); simp (maxDischargeDepth := 9) -implicitDefEqProofs -dsimp only [go_sem, seval, *]; done))))); (focus (first | trivial | (simp (maxDischargeDepth := 9) -implicitDefEqProofs -dsimp only [go_sem, seval, *]; done)))))
              · refine loop_next _ _ _ _ (m + 1) ?_; (repeat' (first | simp (maxDischargeDepth := 9) -implicitDefEqProofs -dsimp only [go_sem, seval, *] | simp (disch := omega) only [wrap64])) <;> (repeat' refine And.intro ?_ ?_) <;> (first | omega | rfl | assumption | skip)
                intro j hj h
                rcases Nat.lt_or_ge j m with h' | h'
                · exact hok3 j hj h'
                · obtain rfl : j = m := by omega
                  assumption
              · have hx := hgb hq
                refine fin_eq ?_
                (repeat' (first | simp (maxDischargeDepth := 9) -implicitDefEqProofs -dsimp only [go_sem, seval, Bool.false_eq_true, *] | simp (disch := omega) only [wrap64])) <;> (repeat' refine And.intro ?_ ?_) <;> (first | omega | rfl | assumption | skip)
            · have hgood : g.good = true := by
                have q1 : Aig.gatesOk g.first g.ands = true := gatesOk_iff.2 fun j hj => by
                  obtain ⟨k1, k2⟩ := hok1 j hj (by omega)
                  have k1 := litN_iff.1 k1
                  have k2 := litN_iff.1 k2
                  unfold Aig.first
                  omega
                have q2 : (g.flops.any fun f => !g.lit f.next) = false := by
                  simp only [List.any_eq_false, Bool.not_eq_true, Bool.not_eq_false']
                  intro f hf
                  obtain ⟨j, hj, rfl⟩ := List.getElem_of_mem hf
                  exact hok2 j hj (by omega)
                have q3 : (g.outs.any fun a => !g.lit a) = false := by
                  simp only [List.any_eq_false, Bool.not_eq_true, Bool.not_eq_false']
                  intro f hf
                  obtain ⟨j, hj, rfl⟩ := List.getElem_of_mem hf
                  exact hok3 j hj (by omega)
                simp [Aig.good, q1, q2, q3]
              clear bad1 bad2 bad3
              repeat' (first | simp (maxDischargeDepth := 9) -implicitDefEqProofs -dsimp only [go_sem, seval, *] | simp (disch := omega) only [wrap64] | (with_reducible (first | apply Zb | apply Zc | apply Zp | apply Zr) <;> intro hq) | ((with_reducible refine Zu ?_ ?_); focus omega))
              refine fin_eq ?_
              (repeat' (first | simp (maxDischargeDepth := 9) -implicitDefEqProofs -dsimp only [go_sem, seval, *] | simp (disch := omega) only [wrap64])) <;> (repeat' refine And.intro ?_ ?_) <;> (first | omega | rfl | assumption | skip)
theorem ref_may (g : Aig) (l : List Int) (σ : Sig) (hs : Wf g) (hl : l.length ≤ 1000000) :
    ACalls Tryz.prog 216 [encAig g, .slice (l.map encInt) .no] σ (fun r σ' => r = .ret (.int .i64 (g.checkL g.check l)) ∧ σ' = σ) := by
  refine calls_x mixed Tryz.func216 b216 n216 rfl q216 (by simp) ?_; unfold c216 r216
  by_cases h0 : g.check = 0
  · have hf := check_fine hs h0
    have hsm := hf.toSmall
    have hc := hf.cnt
    have hc1 : 0 ≤ g.count := by have := hf.lo; unfold Aig.count; omega
    have ez : ((0 : Int) != 0) = false := by decide
    repeat' (first | simp (maxDischargeDepth := 9) -implicitDefEqProofs -dsimp only [go_sem, seval, *] | simp (disch := omega) only [wrap64] | (with_reducible (first | apply Zr) <;> intro hq) | ((with_reducible refine Zu ?_ ?_); focus omega) | ((with_reducible apply ACalls.one1); (focus ((first | with_reducible refine ref_Check g _ hs) <;> (first | (simp (maxDischargeDepth := 9) -implicitDefEqProofs -dsimp only [go_sem, seval, *]; done) | omega))); (focus (first | trivial | with_reducible exact rfl | (simp (maxDischargeDepth := 9) -implicitDefEqProofs -dsimp only [go_sem, seval]; done)))))
    refine loop_rule (fun i : Nat => [(6, some (.int .i64 i)), (1, some (.slice (l.map encInt) .no)), (2, some (.cptr (aigL g)))]) (fun _ => σ) (fun i => i ≤ l.length ∧ ∀ j, (hj : j < l.length) → j < i → g.lit l[j] = true) (fun i => l.length - i) 0 ?_ ?_
    · (repeat' (first | simp (maxDischargeDepth := 9) -implicitDefEqProofs -dsimp only [go_sem, seval, *] | simp (disch := omega) only [wrap64])) <;> (repeat' refine And.intro ?_ ?_) <;> (first | omega | rfl | assumption | skip)
    · rintro i ⟨hi, hok⟩
      by_cases hlt : i < l.length
      · repeat' (first | simp (maxDischargeDepth := 9) -implicitDefEqProofs -dsimp only [go_sem, seval, *] | simp (disch := omega) only [wrap64] | (with_reducible (first | apply Zr) <;> intro hq) | ((with_reducible refine Zu ?_ ?_); focus omega) | ((with_reducible apply ACalls.one1); (focus ((first | with_reducible refine ref_Count g _ hsm | with_reducible refine ref_Lit (1 + g.count) l[i] _ ?_ ?_) <;> (first | (simp (maxDischargeDepth := 9) -implicitDefEqProofs -dsimp only [go_sem, seval, *]; done) | omega))); (focus (first | trivial | with_reducible exact rfl | (simp (maxDischargeDepth := 9) -implicitDefEqProofs -dsimp only [go_sem, seval]; done)))) | ((with_reducible apply id_one0); (focus (intro tS hS; ((first | with_reducible refine ref_Count g _ hsm | with_reducible refine ref_Lit (1 + g.count) l[i] _ ?_ ?_) <;> (first | (simp (maxDischargeDepth := 9) -implicitDefEqProofs -dsimp only [go_sem, seval, *]; done) | omega | ((with_reducible refine Sub.get hS ?_); simp (maxDischargeDepth := 9) -implicitDefEqProofs -dsimp only [go_sem, seval, *]; done))))); (focus (first | trivial | (simp (maxDischargeDepth := 9) -implicitDefEqProofs -dsimp only [go_sem, seval, *]; done)))))
        · refine loop_next _ _ _ _ (i + 1) ?_; (repeat' (first | simp (maxDischargeDepth := 9) -implicitDefEqProofs -dsimp only [go_sem, seval, *] | simp (disch := omega) only [wrap64])) <;> (repeat' refine And.intro ?_ ?_) <;> (first | omega | rfl | assumption | skip)
          intro j hj h
          rcases Nat.lt_or_ge j i with h' | h'
          · exact hok j hj h'
          · obtain rfl : j = i := by omega
            exact hq
        · have hv : g.checkL 0 l = 1 := checkL_bad (List.getElem_mem hlt) hq
          refine fin_eq ?_
          (repeat' (first | simp (maxDischargeDepth := 9) -implicitDefEqProofs -dsimp only [go_sem, seval, *] | simp (disch := omega) only [wrap64])) <;> (repeat' refine And.intro ?_ ?_) <;> (first | omega | rfl | assumption | skip)
      · have hv : g.checkL 0 l = 0 := checkL_zero.2 ⟨rfl, fun a ha => by
          obtain ⟨j, hj, rfl⟩ := List.getElem_of_mem ha
          exact hok j hj (by omega)⟩
        repeat' (first | simp (maxDischargeDepth := 9) -implicitDefEqProofs -dsimp only [go_sem, seval, *] | simp (disch := omega) only [wrap64] | (with_reducible (first | apply Zr) <;> intro hq) | ((with_reducible refine Zu ?_ ?_); focus omega))
        refine fin_eq ?_
        (repeat' (first | simp (maxDischargeDepth := 9) -implicitDefEqProofs -dsimp only [go_sem, seval, *] | simp (disch := omega) only [wrap64])) <;> (repeat' refine And.intro ?_ ?_) <;> (first | omega | rfl | assumption | skip)
  · have hb : (g.check != 0) = true := by simpa using h0
    have hv := checkL_ne g l g.check h0
    repeat' (first | simp (maxDischargeDepth := 9) -implicitDefEqProofs -dsimp only [go_sem, seval, *] | simp (disch := omega) only [wrap64] | (with_reducible (first | apply Zr) <;> intro hq) | ((with_reducible refine Zu ?_ ?_); focus omega) | ((with_reducible apply ACalls.one1); (focus ((first | with_reducible refine ref_Check g _ hs) <;> (first | (simp (maxDischargeDepth := 9) -implicitDefEqProofs -dsimp only [go_sem, seval, *]; done) | omega))); (focus (first | trivial | with_reducible exact rfl | (simp (maxDischargeDepth := 9) -implicitDefEqProofs -dsimp only [go_sem, seval]; done)))))
    refine fin_eq ?_
    (repeat' (first | simp (maxDischargeDepth := 9) -implicitDefEqProofs -dsimp only [go_sem, seval, *] | simp (disch := omega) only [wrap64])) <;> (repeat' refine And.intro ?_ ?_) <;> (first | omega | rfl | assumption | skip)
end Go.Proofs.YtbbihmmobfmadaaGreat.A

