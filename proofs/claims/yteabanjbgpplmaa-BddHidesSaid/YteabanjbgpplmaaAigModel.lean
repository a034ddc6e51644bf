/- The model of layer 18 (gates) in plain Lean. -/
import Derived.Test.YteabanjbgpplmaaAbsT
set_option linter.unusedSimpArgs false
set_option linter.unusedVariables false
namespace Fil
open Abs

structure Flop where
  next : Int
  init : Bool
  deriving DecidableEq, Repr
structure Aig where
  ins : Int
  flops : List Flop
  ands : List (Int × Int)
  outs : List Int
  deriving DecidableEq, Repr
abbrev encFlop (f : Flop) : AV := .agg [.int .i64 f.next, .bool f.init]
abbrev encGate (g : Int × Int) : AV := .agg [.int .i64 g.1, .int .i64 g.2]
abbrev encInt (a : Int) : AV := .int .i64 a
abbrev encBool (a : Bool) : AV := .bool a
abbrev aigL (g : Aig) : List AV := [.int .i64 g.ins, .slice (g.flops.map encFlop) .no, .slice (g.ands.map encGate) .no, .slice (g.outs.map encInt) .no]
abbrev encAig (g : Aig) : AV := .agg (aigL g)
abbrev workC (g : Aig) (e : Int) : AObj := .cells [.int .i64 g.ins, .slice (g.flops.map encFlop) .no, .slice (g.ands.map encGate) .no, .slice (g.outs.map encInt) .no, .int .i64 e]

def I64 (a : Int) : Prop := -9223372036854775808 ≤ a ∧ a ≤ 9223372036854775807

/-- Numbers of 64 bits, lists that are not too long. -/
structure Wf (g : Aig) : Prop where
  ins : I64 g.ins
  flops : g.flops.length ≤ 1000000
  ands : g.ands.length ≤ 1000000
  outs : g.outs.length ≤ 1000000
  nexts : ∀ f ∈ g.flops, I64 f.next
  gates : ∀ x ∈ g.ands, I64 x.1 ∧ I64 x.2
  lits : ∀ a ∈ g.outs, I64 a

/-- Inputs that do not overflow. -/
structure Small (g : Aig) : Prop extends Wf g where
  lo : 0 ≤ g.ins
  hi : g.ins ≤ 1000000

namespace Aig
/-- How many nodes there are, without the first one. -/
def count (g : Aig) : Int := g.ins + g.flops.length + g.ands.length
def first (g : Aig) : Int := 1 + g.ins + g.flops.length
/-- Is it a literal of one of so many nodes? -/
def litN (n a : Int) : Bool := decide (0 ≤ a) && decide (a < 2 * n)
def lit (g : Aig) (a : Int) : Bool := litN (1 + g.count) a

/-- May gates be, the first of which is a node? -/
def gatesOk : Int → List (Int × Int) → Bool
  | _, [] => true
  | n, x :: l => litN n x.1 && litN n x.2 && gatesOk (n + 1) l

/-- May it be? -/
def good (g : Aig) : Bool := gatesOk g.first g.ands && !(g.flops.any fun f => !g.lit f.next) && !(g.outs.any fun a => !g.lit a)

def check (g : Aig) : Int :=
  if g.ins < 0 then 1
  else if 65536 < g.ins ∨ 65536 < g.count ∨ 65536 < (g.outs.length : Int) then 2
  else if g.good then 0 else 1

/-- What is told of literals, too. -/
def checkL (g : Aig) : Int → List Int → Int
  | e, [] => e
  | e, a :: l => g.checkL (if e = 0 ∧ g.lit a = false then 1 else e) l

/-- Where the gate of two literals is. -/
def find (g : Aig) (a b : Int) : Int := idxF (fun x : Int × Int => decide (min x.1 x.2 = a) && decide (max x.1 x.2 = b)) g.ands

/-- The and of two literals: gates, and its literal; none: there are too many. -/
def andO (g : Aig) (p q : Int) : Option (Aig × Int) :=
  let a := min p q
  let b := max p q
  if a = 0 ∨ a = turn b then some (g, 0)
  else if a = 1 ∨ a = b then some (g, b)
  else if 0 ≤ g.find a b then some (g, 2 * (g.first + g.find a b))
  else if g.count = 65536 then none
  else some ({ g with ands := g.ands ++ [(a, b)] }, 2 * (g.count + 1))
/-- The same, unless there was an error: gates, the error, the literal. -/
def andW (g : Aig) (e p q : Int) : Aig × Int × Int :=
  if e ≠ 0 then (g, e, 0) else match g.andO p q with
    | none => (g, 2, 0)
    | some (g', x) => (g', 0, x)
def orW (g : Aig) (e p q : Int) : Aig × Int × Int :=
  let r := g.andW e (turn p) (turn q)
  (r.1, r.2.1, turn r.2.2)
/-- What is told. -/
def endW (r : Aig × Int × Int) : Aig × Int × Int := if r.2.1 ≠ 0 then (⟨0, [], [], []⟩, 0, r.2.1) else (r.1, r.2.2, 0)
end Aig

theorem litN_iff {n a : Int} : Aig.litN n a = true ↔ 0 ≤ a ∧ a < 2 * n := by simp [Aig.litN]
theorem litN_false {n a : Int} : Aig.litN n a = false ↔ a < 0 ∨ 2 * n ≤ a := by
  simp only [Aig.litN, Bool.and_eq_false_iff, decide_eq_false_iff_not]; omega

theorem gatesOk_iff : ∀ {l : List (Int × Int)} {n : Int}, Aig.gatesOk n l = true ↔ ∀ i, (h : i < l.length) → (0 ≤ l[i].1 ∧ l[i].1 < 2 * (n + i)) ∧ (0 ≤ l[i].2 ∧ l[i].2 < 2 * (n + i))
  | [], n => by simp [Aig.gatesOk]
  | x :: l, n => by
    simp only [Aig.gatesOk, Bool.and_eq_true, litN_iff, gatesOk_iff (l := l) (n := n + 1)]
    constructor
    · rintro ⟨h1, h2⟩ i hi
      cases i with
      | zero => simpa using h1
      | succ i =>
        have := h2 i (by simpa using hi)
        simp only [List.getElem_cons_succ]
        omega
    · intro h
      have h0 := h 0 (by simp)
      refine ⟨by simpa using h0, fun i hi => ?_⟩
      have := h (i + 1) (by simpa using hi)
      simp only [List.getElem_cons_succ] at this
      omega

theorem gatesOk_false {l : List (Int × Int)} {n : Int} {i : Nat} (h : i < l.length) (hb : ¬ ((0 ≤ l[i].1 ∧ l[i].1 < 2 * (n + i)) ∧ (0 ≤ l[i].2 ∧ l[i].2 < 2 * (n + i)))) : Aig.gatesOk n l = false := by
  cases hh : Aig.gatesOk n l with
  | false => rfl
  | true => exact (hb (gatesOk_iff.1 hh i h)).elim

theorem checkL_append (g : Aig) : ∀ (l m : List Int) (e : Int), g.checkL e (l ++ m) = g.checkL (g.checkL e l) m
  | [], m, e => rfl
  | a :: l, m, e => by simp only [List.cons_append, Aig.checkL]; exact checkL_append g l m _
theorem checkL_snoc (g : Aig) (l : List Int) (a e : Int) : g.checkL e (l ++ [a]) = if g.checkL e l = 0 ∧ g.lit a = false then 1 else g.checkL e l := by
  rw [checkL_append]; rfl
theorem checkL_ne (g : Aig) : ∀ (l : List Int) (e : Int), e ≠ 0 → g.checkL e l = e
  | [], e, _ => rfl
  | a :: l, e, h => by simp only [Aig.checkL, h, false_and, if_false]; exact checkL_ne g l e h
theorem checkL_zero {g : Aig} : ∀ {l : List Int} {e : Int}, g.checkL e l = 0 ↔ e = 0 ∧ ∀ a ∈ l, g.lit a = true
  | [], e => by simp [Aig.checkL]
  | a :: l, e => by
    simp only [Aig.checkL, checkL_zero (l := l), List.mem_cons, forall_eq_or_imp]
    by_cases he : e = 0
    · cases h : g.lit a <;> simp [he, h]
    · simp [he]
theorem check_small {g : Aig} (hs : Wf g) (h : g.check = 0) : Small g := by
  unfold Aig.check at h
  split at h
  · simp at h
  · split at h
    · simp at h
    · exact ⟨hs, by omega, by omega⟩
theorem checkL_small {g : Aig} {l : List Int} (hs : Wf g) (h : g.checkL g.check l = 0) : Small g := check_small hs (checkL_zero.1 h).1

section
variable {g : Aig} {a b : Int}
theorem andW1 (h : min a b = 0 ∨ min a b = turn (max a b)) : g.andW 0 a b = (g, 0, 0) := by simp [Aig.andW, Aig.andO, h]
theorem andW2 (h : ¬ (min a b = 0 ∨ min a b = turn (max a b))) (h2 : min a b = 1 ∨ min a b = max a b) : g.andW 0 a b = (g, 0, max a b) := by
  simp only [Aig.andW, Aig.andO, h, h2, if_true, if_false]; rfl
theorem andW3 (h : ¬ (min a b = 0 ∨ min a b = turn (max a b))) (h2 : ¬ (min a b = 1 ∨ min a b = max a b)) (h3 : 0 ≤ g.find (min a b) (max a b)) : g.andW 0 a b = (g, 0, 2 * (g.first + g.find (min a b) (max a b))) := by
  simp only [Aig.andW, Aig.andO, h, h2, h3, if_true, if_false]; rfl
theorem andW4 (h : ¬ (min a b = 0 ∨ min a b = turn (max a b))) (h2 : ¬ (min a b = 1 ∨ min a b = max a b)) (h3 : ¬ 0 ≤ g.find (min a b) (max a b)) (h4 : g.count = 65536) : g.andW 0 a b = (g, 2, 0) := by
  simp only [Aig.andW, Aig.andO, h, h2, h3, h4, if_true, if_false]; rfl
theorem andW5 (h : ¬ (min a b = 0 ∨ min a b = turn (max a b))) (h2 : ¬ (min a b = 1 ∨ min a b = max a b)) (h3 : ¬ 0 ≤ g.find (min a b) (max a b)) (h4 : ¬ g.count = 65536) :
    g.andW 0 a b = ({ g with ands := g.ands ++ [(min a b, max a b)] }, 0, 2 * (g.count + 1)) := by
  simp only [Aig.andW, Aig.andO, h, h2, h3, h4, if_false]; rfl
theorem count_push (x : Int × Int) : ({ g with ands := g.ands ++ [x] } : Aig).count = g.count + 1 := by simp [Aig.count]; omega
end

theorem szs_gate (l : List (Int × Int)) : szs 2 (l.map encGate) = True := szs_map _ _ _ fun _ => rfl
theorem szs_flop (l : List Flop) : szs 2 (l.map encFlop) = True := szs_map _ _ _ fun _ => rfl
theorem szs_int (l : List Int) : szs 1 (l.map encInt) = True := szs_map _ _ _ fun _ => rfl
theorem szs_bool (l : List Bool) : szs 1 (l.map encBool) = True := szs_map _ _ _ fun _ => rfl
attribute [go_sem] szs_gate szs_flop szs_int szs_bool

/-! ### Making gates -/

/-- Other gates with more at the end. -/
structure Ext (g g' : Aig) : Prop where
  ins : g'.ins = g.ins
  flops : g'.flops = g.flops
  outs : g'.outs = g.outs
  ands : ∃ l, g'.ands = g.ands ++ l

theorem Ext.refl (g : Aig) : Ext g g := ⟨rfl, rfl, rfl, [], by simp⟩
theorem Ext.trans {g g' g'' : Aig} (h : Ext g g') (h' : Ext g' g'') : Ext g g'' := by
  obtain ⟨a1, a2, a3, l, a4⟩ := h
  obtain ⟨b1, b2, b3, m, b4⟩ := h'
  exact ⟨b1.trans a1, b2.trans a2, b3.trans a3, l ++ m, by rw [b4, a4, List.append_assoc]⟩
theorem Ext.count {g g' : Aig} (h : Ext g g') : g.count ≤ g'.count := by
  obtain ⟨a1, a2, a3, l, a4⟩ := h
  simp only [Aig.count, a1, a2, a4, List.length_append]; omega
theorem Ext.first {g g' : Aig} (h : Ext g g') : g'.first = g.first := by simp only [Aig.first, h.ins, h.flops]
theorem Ext.lit {g g' : Aig} (h : Ext g g') {a : Int} (ha : g.lit a = true) : g'.lit a = true := by
  have := h.count
  simp only [Aig.lit, litN_iff] at ha ⊢
  omega

/-- Gates that may be worked on. -/
structure Fine (g : Aig) : Prop extends Small g where
  cnt : g.count ≤ 65536
  gok : Aig.gatesOk g.first g.ands = true

theorem gatesOk_append {n : Int} : ∀ {l m : List (Int × Int)}, Aig.gatesOk n (l ++ m) = (Aig.gatesOk n l && Aig.gatesOk (n + l.length) m)
  | [], m => by simp [Aig.gatesOk]
  | x :: l, m => by
    simp only [List.cons_append, Aig.gatesOk, gatesOk_append (l := l), List.length_cons, Bool.and_assoc]
    congr 4; simp only [Int.natCast_add]; omega

theorem count_first (g : Aig) : 1 + g.count = g.first + g.ands.length := by simp only [Aig.count, Aig.first]; omega

theorem turn_lit {n a : Int} (h : Aig.litN n a = true) : Aig.litN n (turn a) = true := by
  simp only [litN_iff, turn] at h ⊢; omega
theorem turn_I64 {a : Int} (h : I64 a) : I64 (turn a) := by
  simp only [I64, turn] at h ⊢; omega

/-- What is put in is a literal of what there is then. -/
theorem andO_some {g g' : Aig} {p q x : Int} (hf : Fine g) (hp : g.lit p = true) (hq : g.lit q = true) (h : g.andO p q = some (g', x)) : Fine g' ∧ Ext g g' ∧ g'.lit x = true := by
  have hp' := litN_iff.1 hp
  have hq' := litN_iff.1 hq
  have hlo := hf.lo
  have hc : 0 ≤ g.count := by unfold Aig.count; omega
  unfold Aig.andO at h
  simp only at h
  split at h
  · simp at h; obtain ⟨rfl, rfl⟩ := h
    exact ⟨hf, .refl g, by simp only [Aig.lit, litN_iff]; omega⟩
  · rename_i h1
    split at h
    · simp at h; obtain ⟨rfl, rfl⟩ := h
      exact ⟨hf, .refl g, by simp only [Aig.lit, litN_iff]; omega⟩
    · split at h
      · simp at h; obtain ⟨rfl, rfl⟩ := h
        have := idxF_bounds (fun x : Int × Int => decide (min x.1 x.2 = min p q) && decide (max x.1 x.2 = max p q)) g.ands
        have e : g.find (min p q) (max p q) = idxF (fun x : Int × Int => decide (min x.1 x.2 = min p q) && decide (max x.1 x.2 = max p q)) g.ands := rfl
        have cf := count_first g
        refine ⟨hf, .refl g, ?_⟩
        have hff : 1 ≤ g.first := by unfold Aig.first; omega
        simp only [Aig.lit, litN_iff]; omega
      · split at h
        · simp at h
        · rename_i hcn
          simp at h; obtain ⟨rfl, rfl⟩ := h
          have hcc := hf.cnt
          have hlen : (g.ands.length : Int) ≤ 65536 := by simp only [Aig.count] at hcc; omega
          have cp := count_push (g := g) (min p q, max p q)
          have cf := count_first g
          have hsm : Small { g with ands := g.ands ++ [(min p q, max p q)] } := { hf.toSmall with
            ands := by simp; omega
            gates := fun y hy => by
              rcases List.mem_append.1 hy with h | h
              · exact hf.gates y h
              · simp at h; subst h; exact ⟨⟨by simp; omega, by simp; omega⟩, ⟨by simp; omega, by simp; omega⟩⟩ }
          refine ⟨{ hsm with cnt := by omega, gok := ?_ }, ⟨rfl, rfl, rfl, _, rfl⟩, by simp only [Aig.lit, litN_iff]; omega⟩
          show Aig.gatesOk g.first (g.ands ++ [(min p q, max p q)]) = true
          rw [gatesOk_append, hf.gok]
          simp only [Aig.gatesOk, Bool.and_true, Bool.true_and, Bool.and_eq_true, litN_iff]
          omega

/-- Gates at work, and their error. -/
def OkW (g : Aig) (e : Int) : Prop := e = 0 → Fine g

theorem andW_err {g : Aig} {e p q : Int} (h : (g.andW e p q).2.1 = 0) : e = 0 := by
  unfold Aig.andW at h
  split at h
  · exact h
  · rename_i h'; simpa using h'
theorem andW_none {g : Aig} {e p q : Int} (h : e ≠ 0) : g.andW e p q = (g, e, 0) := by simp [Aig.andW, h]
theorem andW_ok {g : Aig} {e p q : Int} (hf : e = 0 → Fine g ∧ g.lit p = true ∧ g.lit q = true) :
    ((g.andW e p q).2.1 = 0 → Fine (g.andW e p q).1 ∧ (g.andW e p q).1.lit (g.andW e p q).2.2 = true) ∧ Ext g (g.andW e p q).1 ∧ 0 ≤ (g.andW e p q).2.2 ∧ (g.andW e p q).2.2 ≤ 1000000 := by
  by_cases he : e = 0
  · subst he
    obtain ⟨h1, h2, h3⟩ := hf rfl
    cases ho : g.andO p q with
    | none =>
      have : g.andW 0 p q = (g, 2, 0) := by simp [Aig.andW, ho]
      rw [this]
      exact ⟨fun h => by simp at h, .refl g, by simp, by simp⟩
    | some r =>
      obtain ⟨g', x⟩ := r
      have : g.andW 0 p q = (g', 0, x) := by simp [Aig.andW, ho]
      rw [this]
      obtain ⟨k1, k2, k3⟩ := andO_some h1 h2 h3 ho
      have := litN_iff.1 k3
      have := k1.cnt
      exact ⟨fun _ => ⟨k1, k3⟩, k2, by simp; omega, by simp; omega⟩
  · rw [andW_none he]
    exact ⟨fun h => (he h).elim, .refl g, by simp, by simp⟩
theorem andW_range {g : Aig} {e p q : Int} (hf : e = 0 → Fine g ∧ g.lit p = true ∧ g.lit q = true) : I64 (g.andW e p q).2.2 := by
  obtain ⟨_, _, h1, h2⟩ := andW_ok hf
  exact ⟨by omega, by omega⟩

theorem check_fine {g : Aig} (hs : Wf g) (h : g.check = 0) : Fine g := by
  have hsm := check_small hs h
  unfold Aig.check at h
  split at h
  · simp at h
  · split at h
    · simp at h
    · split at h
      · rename_i hg
        simp only [Aig.good, Bool.and_eq_true] at hg
        exact { hsm with cnt := by omega, gok := hg.1.1 }
      · simp at h
theorem checkL_fine {g : Aig} {l : List Int} (hs : Wf g) (h : g.checkL g.check l = 0) : Fine g ∧ ∀ a ∈ l, g.lit a = true := ⟨check_fine hs (checkL_zero.1 h).1, (checkL_zero.1 h).2⟩

namespace Aig
def And (g : Aig) (a b : Int) : Aig × Int × Int := endW (g.andW (g.checkL g.check [a, b]) a b)
def Or (g : Aig) (a b : Int) : Aig × Int × Int := endW (g.orW (g.checkL g.check [a, b]) a b)
/-- The or of two ands. -/
def pairs (g : Aig) (e a b c d : Int) : Aig × Int × Int :=
  let r := g.andW e a b
  let s := r.1.andW r.2.1 c d
  s.1.orW s.2.1 r.2.2 s.2.2
def Xor (g : Aig) (a b : Int) : Aig × Int × Int := endW (g.pairs (g.checkL g.check [a, b]) a (turn b) (turn a) b)
def Mux (g : Aig) (c a b : Int) : Aig × Int × Int := endW (g.pairs (g.checkL g.check [c, a, b]) c a (turn c) b)
def New (ins : Int) (init : List Bool) : Aig × Int :=
  if ins < 0 then (⟨0, [], [], []⟩, 1) else if 65536 < ins + init.length then (⟨0, [], [], []⟩, 2) else (⟨ins, init.map fun b => ⟨0, b⟩, [], []⟩, 0)
/-- A literal's value. -/
def val (v : List Bool) (a : Int) : Bool := (v.getD (a / 2).toNat false) != decide (a % 2 = 1)
/-- The values of gates behind those of other nodes. -/
def vals : List Bool → List (Int × Int) → List Bool
  | v, [] => v
  | v, x :: l => vals (v ++ [val v x.1 && val v x.2]) l
def Nodes (g : Aig) (inp st : List Bool) : List Bool × Int :=
  if g.check ≠ 0 then ([], g.check) else if (inp.length : Int) ≠ g.ins ∨ st.length ≠ g.flops.length then ([], 1) else (vals (false :: (inp ++ st)) g.ands, 0)
def Eval (g : Aig) (inp st : List Bool) : List Bool × List Bool × Int :=
  if (g.Nodes inp st).2 ≠ 0 then ([], [], (g.Nodes inp st).2) else (g.outs.map (val (g.Nodes inp st).1), g.flops.map (fun f => val (g.Nodes inp st).1 f.next), 0)
/-- Row by row. -/
def runs (g : Aig) : List Bool → List (List Bool) → List (List Bool) → List (List Bool) × Int
  | _, out, [] => (out, 0)
  | st, out, inp :: ins => if (g.Eval inp st).2.2 ≠ 0 then ([], (g.Eval inp st).2.2) else runs g (g.Eval inp st).2.1 (out ++ [(g.Eval inp st).1]) ins
def Run (g : Aig) (ins : List (List Bool)) : List (List Bool) × Int := if g.check ≠ 0 then ([], g.check) else g.runs (g.flops.map (·.init)) [] ins
/-- How deep gates are, behind other nodes. -/
def levs : List Int → List (Int × Int) → List Int
  | l, [] => l
  | l, x :: r => levs (l ++ [1 + max (l.getD (x.1 / 2).toNat 0) (l.getD (x.2 / 2).toNat 0)]) r
def Levels (g : Aig) : List Int × Int := if g.check ≠ 0 then ([], g.check) else (levs (List.replicate g.first.toNat 0) g.ands, 0)
end Aig

theorem vals_append : ∀ (l m : List (Int × Int)) (v : List Bool), Aig.vals v (l ++ m) = Aig.vals (Aig.vals v l) m
  | [], m, v => rfl
  | x :: l, m, v => by simp only [List.cons_append, Aig.vals]; exact vals_append l m _
theorem vals_snoc (l : List (Int × Int)) (x : Int × Int) (v : List Bool) : Aig.vals v (l ++ [x]) = Aig.vals v l ++ [Aig.val (Aig.vals v l) x.1 && Aig.val (Aig.vals v l) x.2] := by
  rw [vals_append]; rfl
theorem vals_length : ∀ (l : List (Int × Int)) (v : List Bool), (Aig.vals v l).length = v.length + l.length
  | [], v => rfl
  | x :: l, v => by simp only [Aig.vals, vals_length l, List.length_append, List.length_cons, List.length_nil]; omega
theorem vals_step {l : List (Int × Int)} {v : List Bool} {i : Nat} (h : i < l.length) :
    Aig.vals v (l.take (i + 1)) = Aig.vals v (l.take i) ++ [Aig.val (Aig.vals v (l.take i)) l[i].1 && Aig.val (Aig.vals v (l.take i)) l[i].2] := by
  rw [List.take_add_one, List.getElem?_eq_getElem h]
  exact vals_snoc _ _ _
theorem vals_len {l : List (Int × Int)} {v : List Bool} {i : Nat} (h : i ≤ l.length) : (Aig.vals v (l.take i)).length = v.length + i := by
  rw [vals_length, List.length_take]; omega
theorem levs_append : ∀ (l m : List (Int × Int)) (v : List Int), Aig.levs v (l ++ m) = Aig.levs (Aig.levs v l) m
  | [], m, v => rfl
  | x :: l, m, v => by simp only [List.cons_append, Aig.levs]; exact levs_append l m _
theorem levs_length : ∀ (l : List (Int × Int)) (v : List Int), (Aig.levs v l).length = v.length + l.length
  | [], v => rfl
  | x :: l, v => by simp only [Aig.levs, levs_length l, List.length_append, List.length_cons, List.length_nil]; omega
theorem levs_step {l : List (Int × Int)} {v : List Int} {i : Nat} (h : i < l.length) :
    Aig.levs v (l.take (i + 1)) = Aig.levs v (l.take i) ++ [1 + max ((Aig.levs v (l.take i)).getD (l[i].1 / 2).toNat 0) ((Aig.levs v (l.take i)).getD (l[i].2 / 2).toNat 0)] := by
  rw [List.take_add_one, List.getElem?_eq_getElem h]
  show Aig.levs v (l.take i ++ [l[i]]) = _
  rw [levs_append]; rfl
theorem levs_len {l : List (Int × Int)} {v : List Int} {i : Nat} (h : i ≤ l.length) : (Aig.levs v (l.take i)).length = v.length + i := by
  rw [levs_length, List.length_take]; omega
theorem take_succ {α : Type} {l : List α} {i : Nat} (h : i < l.length) : l.take (i + 1) = l.take i ++ [l[i]] := by
  rw [List.take_add_one, List.getElem?_eq_getElem h]; rfl


/-- Where all is well there is a value of each literal. -/
theorem nodes_ok {g : Aig} {inp st : List Bool} (hs : Wf g) (h : (g.Nodes inp st).2 = 0) : Fine g ∧ g.good = true ∧ (inp.length : Int) = g.ins ∧ st.length = g.flops.length ∧
    (g.Nodes inp st).1 = Aig.vals (false :: (inp ++ st)) g.ands ∧ (((g.Nodes inp st).1.length : Nat) : Int) = 1 + g.count := by
  unfold Aig.Nodes at h ⊢
  split at h
  · rename_i hc; exact (hc h).elim
  · rename_i hc
    have hc' : g.check = 0 := Classical.not_not.1 hc
    split at h
    · simp at h
    · rename_i hl
      have h1 : (inp.length : Int) = g.ins ∧ st.length = g.flops.length := ⟨Classical.not_not.1 fun e => hl (.inl e), Classical.not_not.1 fun e => hl (.inr e)⟩
      rw [if_neg hc, if_neg hl]
      have hg : g.good = true := by
        unfold Aig.check at hc'
        split at hc'
        · simp at hc'
        · split at hc'
          · simp at hc'
          · split at hc'
            · assumption
            · simp at hc'
      refine ⟨check_fine hs hc', hg, h1.1, h1.2, rfl, ?_⟩
      simp only [vals_length, Aig.count, List.length_cons, List.length_append]
      omega
theorem good_outs {g : Aig} (h : g.good = true) {a : Int} (ha : a ∈ g.outs) : 0 ≤ a ∧ a < 2 * (1 + g.count) := by
  simp only [Aig.good, Bool.and_eq_true, Bool.not_eq_true', List.any_eq_false, Bool.not_eq_true, Bool.not_eq_false'] at h
  have := h.2 a ha
  exact litN_iff.1 (by simpa [Aig.lit] using this)
theorem good_flops {g : Aig} (h : g.good = true) {f : Flop} (hf : f ∈ g.flops) : 0 ≤ f.next ∧ f.next < 2 * (1 + g.count) := by
  simp only [Aig.good, Bool.and_eq_true, Bool.not_eq_true', List.any_eq_false, Bool.not_eq_true, Bool.not_eq_false'] at h
  have := h.1.2 f hf
  exact litN_iff.1 (by simpa [Aig.lit] using this)
theorem good_gates {g : Aig} (h : g.good = true) : Aig.gatesOk g.first g.ands = true := by
  simp only [Aig.good, Bool.and_eq_true] at h
  exact h.1.1

theorem levs_bound : ∀ (l : List (Int × Int)) (v : List Int) (b : Int), (∀ x ∈ v, 0 ≤ x ∧ x ≤ b) → 0 ≤ b → ∀ x ∈ Aig.levs v l, 0 ≤ x ∧ x ≤ b + l.length
  | [], v, b, h, _ => fun x hx => by have := h x hx; simp; omega
  | y :: l, v, b, h, hb => by
    have hd : ∀ n, 0 ≤ v.getD n 0 ∧ v.getD n 0 ≤ b := fun n => by
      rcases Nat.lt_or_ge n v.length with hn | hn
      · rw [List.getD_eq_getElem?_getD, List.getElem?_eq_getElem hn]; exact h _ (List.getElem_mem hn)
      · rw [List.getD_eq_getElem?_getD, List.getElem?_eq_none hn]; simp; exact hb
    intro x hx
    simp only [Aig.levs] at hx
    have := levs_bound l _ (b + 1) (fun z hz => by
      rcases List.mem_append.1 hz with h' | h'
      · have := h z h'; omega
      · have h' := List.mem_singleton.1 h'
        have h1 := hd (y.1 / 2).toNat
        have h2 := hd (y.2 / 2).toNat
        subst h'
        omega) (by omega) x hx
    simp only [List.length_cons, Int.natCast_add]
    omega

theorem checkL_bad {g : Aig} : ∀ {l : List Int} {a : Int}, a ∈ l → g.lit a = false → g.checkL 0 l = 1
  | b :: l, a, ha, hb => by
    simp only [Aig.checkL]
    rcases List.mem_cons.1 ha with rfl | h
    · simp only [hb, and_self, if_true]; exact checkL_ne g l 1 (by decide)
    · cases hh : g.lit b with
      | false => simp only [and_self, if_true]; exact checkL_ne g l 1 (by decide)
      | true => simp only [Bool.true_eq_false, and_false, if_false]; exact checkL_bad h hb

theorem find_eq {g : Aig} {a b : Int} (h : a ≤ b) : g.find a b = idxF (fun x : Int × Int => (decide (x.1 = a) && decide (x.2 = b)) || (decide (x.1 = b) && decide (x.2 = a))) g.ands := by
  unfold Aig.find
  congr 1
  funext x
  rw [Bool.eq_iff_iff]
  simp only [Bool.and_eq_true, Bool.or_eq_true, decide_eq_true_eq]
  omega

/-- What an and puts in, told. -/
theorem endW_and {g : Aig} {a b : Int} : Aig.endW (g.andW 0 a b) = match g.andO a b with
    | none => (⟨0, [], [], []⟩, 0, 2)
    | some (g', x) => (g', x, 0) := by
  unfold Aig.andW
  cases g.andO a b with
  | none => rfl
  | some r => rfl
theorem endW_or {g : Aig} {a b : Int} (h : (g.andW 0 (turn a) (turn b)).2.1 = 0) : Aig.endW (g.orW 0 a b) = ((g.andW 0 (turn a) (turn b)).1, turn (g.andW 0 (turn a) (turn b)).2.2, 0) := by
  simp only [Aig.endW, Aig.orW, h]; rfl
theorem endW_or' {g : Aig} {a b : Int} (h : (g.andW 0 (turn a) (turn b)).2.1 ≠ 0) : Aig.endW (g.orW 0 a b) = (⟨0, [], [], []⟩, 0, (g.andW 0 (turn a) (turn b)).2.1) := by
  simp only [Aig.endW, Aig.orW, h, ne_eq, not_false_eq_true, if_true]
theorem endW_ok {r : Aig × Int × Int} (h : r.2.1 = 0) : Aig.endW r = (r.1, r.2.2, 0) := by simp [Aig.endW, h]
theorem endW_err {r : Aig × Int × Int} (h : r.2.1 ≠ 0) : Aig.endW r = (⟨0, [], [], []⟩, 0, r.2.1) := by simp [Aig.endW, h]

end Fil
