/- aig: contracts of the functions that make gates. -/
import Derived.Test.YtjichkelfhcbcaaAbsT
import Derived.Test.YtjichkelfhcbcaaEqvC2
set_option linter.unusedSimpArgs false
set_option linter.unusedVariables false
namespace Fil
open Abs
structure Flop where
  next : Int
  init : Bool
  deriving DecidableEq, Repr
structure Aig where
  ins : Int
  flops : List Flop
  ands : List (Int × Int)
  outs : List Int
  deriving DecidableEq, Repr
abbrev encFlop (f : Flop) : AV := .agg [.int .i64 f.next, .bool f.init]
abbrev encGate (g : Int × Int) : AV := .agg [.int .i64 g.1, .int .i64 g.2]
abbrev encInt (a : Int) : AV := .int .i64 a
abbrev encBool (a : Bool) : AV := .bool a
abbrev aigL (g : Aig) : List AV := [.int .i64 g.ins, .slice (g.flops.map encFlop) .no, .slice (g.ands.map encGate) .no, .slice (g.outs.map encInt) .no]
abbrev encAig (g : Aig) : AV := .agg (aigL g)
abbrev workC (g : Aig) (e : Int) : AObj := .cells [.int .i64 g.ins, .slice (g.flops.map encFlop) .no, .slice (g.ands.map encGate) .no, .slice (g.outs.map encInt) .no, .int .i64 e]
def I64 (a : Int) : Prop := -9223372036854775808 ≤ a ∧ a ≤ 9223372036854775807
structure Wf (g : Aig) : Prop where
  ins : I64 g.ins
  flops : g.flops.length ≤ 1000000
  ands : g.ands.length ≤ 1000000
  outs : g.outs.length ≤ 1000000
  nexts : ∀ f ∈ g.flops, I64 f.next
  gates : ∀ x ∈ g.ands, I64 x.1 ∧ I64 x.2
  lits : ∀ a ∈ g.outs, I64 a
structure Small (g : Aig) : Prop extends Wf g where
  lo : 0 ≤ g.ins
  hi : g.ins ≤ 1000000
namespace Aig
def count (g : Aig) : Int := g.ins + g.flops.length + g.ands.length
def first (g : Aig) : Int := 1 + g.ins + g.flops.length
def litN (n a : Int) : Bool := decide (0 ≤ a) && decide (a < 2 * n)
def lit (g : Aig) (a : Int) : Bool := litN (1 + g.count) a
def gatesOk : Int → List (Int × Int) → Bool
  | _, [] => true
  | n, x :: l => litN n x.1 && litN n x.2 && gatesOk (n + 1) l
def good (g : Aig) : Bool := gatesOk g.first g.ands && !(g.flops.any fun f => !g.lit f.next) && !(g.outs.any fun a => !g.lit a)
def check (g : Aig) : Int :=
  if g.ins < 0 then 1
  else if 65536 < g.ins ∨ 65536 < g.count ∨ 65536 < (g.outs.length : Int) then 2
  else if g.good then 0 else 1
def checkL (g : Aig) : Int → List Int → Int
  | e, [] => e
  | e, a :: l => g.checkL (if e = 0 ∧ g.lit a = false then 1 else e) l
def find (g : Aig) (a b : Int) : Int := idxF (fun x : Int × Int => decide (min x.1 x.2 = a) && decide (max x.1 x.2 = b)) g.ands
def andO (g : Aig) (p q : Int) : Option (Aig × Int) :=
  let a := min p q
  let b := max p q
  if a = 0 ∨ a = turn b then some (g, 0)
  else if a = 1 ∨ a = b then some (g, b)
  else if 0 ≤ g.find a b then some (g, 2 * (g.first + g.find a b))
  else if g.count = 65536 then none
  else some ({ g with ands := g.ands ++ [(a, b)] }, 2 * (g.count + 1))
def andW (g : Aig) (e p q : Int) : Aig × Int × Int :=
  if e ≠ 0 then (g, e, 0) else match g.andO p q with
    | none => (g, 2, 0)
    | some (g', x) => (g', 0, x)
def orW (g : Aig) (e p q : Int) : Aig × Int × Int :=
  let r := g.andW e (turn p) (turn q)
  (r.1, r.2.1, turn r.2.2)
def endW (r : Aig × Int × Int) : Aig × Int × Int := if r.2.1 ≠ 0 then (⟨0, [], [], []⟩, 0, r.2.1) else (r.1, r.2.2, 0)
end Aig
theorem litN_iff {n a : Int} : Aig.litN n a = true ↔ 0 ≤ a ∧ a < 2 * n := by simp [Aig.litN]
theorem gatesOk_iff : ∀ {l : List (Int × Int)} {n : Int}, Aig.gatesOk n l = true ↔ ∀ i, (h : i < l.length) → (0 ≤ l[i].1 ∧ l[i].1 < 2 * (n + i)) ∧ (0 ≤ l[i].2 ∧ l[i].2 < 2 * (n + i))
  | [], n => by simp [Aig.gatesOk]
  | x :: l, n => by
    simp only [Aig.gatesOk, Bool.and_eq_true, litN_iff, gatesOk_iff (l := l) (n := n + 1)]
    constructor
    · rintro ⟨h1, h2⟩ i hi
      cases i with
      | zero => simpa using h1
      | succ i =>
        have := h2 i (by simpa using hi)
        simp only [List.getElem_cons_succ]
        omega
    · intro h
      have h0 := h 0 (by simp)
      refine ⟨by simpa using h0, fun i hi => ?_⟩
      have := h (i + 1) (by simpa using hi)
      simp only [List.getElem_cons_succ] at this
      omega
theorem gatesOk_false {l : List (Int × Int)} {n : Int} {i : Nat} (h : i < l.length) (hb : ¬ ((0 ≤ l[i].1 ∧ l[i].1 < 2 * (n + i)) ∧ (0 ≤ l[i].2 ∧ l[i].2 < 2 * (n + i)))) : Aig.gatesOk n l = false := by
  cases hh : Aig.gatesOk n l with
  | false => rfl
  | true => exact (hb (gatesOk_iff.1 hh i h)).elim
theorem checkL_append (g : Aig) : ∀ (l m : List Int) (e : Int), g.checkL e (l ++ m) = g.checkL (g.checkL e l) m
  | [], m, e => rfl
  | a :: l, m, e => by simp only [List.cons_append, Aig.checkL]; exact checkL_append g l m _
theorem checkL_snoc (g : Aig) (l : List Int) (a e : Int) : g.checkL e (l ++ [a]) = if g.checkL e l = 0 ∧ g.lit a = false then 1 else g.checkL e l := by
  rw [checkL_append]; rfl
theorem checkL_zero {g : Aig} : ∀ {l : List Int} {e : Int}, g.checkL e l = 0 ↔ e = 0 ∧ ∀ a ∈ l, g.lit a = true
  | [], e => by simp [Aig.checkL]
  | a :: l, e => by
    simp only [Aig.checkL, checkL_zero (l := l), List.mem_cons, forall_eq_or_imp]
    by_cases he : e = 0
    · cases h : g.lit a <;> simp [he, h]
    · simp [he]
theorem check_small {g : Aig} (hs : Wf g) (h : g.check = 0) : Small g := by
  unfold Aig.check at h
  split at h
  · simp at h
  · split at h
    · simp at h
    · exact ⟨hs, by omega, by omega⟩
theorem checkL_small {g : Aig} {l : List Int} (hs : Wf g) (h : g.checkL g.check l = 0) : Small g := check_small hs (checkL_zero.1 h).1
section
variable {g : Aig} {a b : Int}
theorem andW1 (h : min a b = 0 ∨ min a b = turn (max a b)) : g.andW 0 a b = (g, 0, 0) := by simp [Aig.andW, Aig.andO, h]
theorem andW2 (h : ¬ (min a b = 0 ∨ min a b = turn (max a b))) (h2 : min a b = 1 ∨ min a b = max a b) : g.andW 0 a b = (g, 0, max a b) := by
  simp only [Aig.andW, Aig.andO, h, h2, if_true, if_false]; rfl
theorem andW3 (h : ¬ (min a b = 0 ∨ min a b = turn (max a b))) (h2 : ¬ (min a b = 1 ∨ min a b = max a b)) (h3 : 0 ≤ g.find (min a b) (max a b)) : g.andW 0 a b = (g, 0, 2 * (g.first + g.find (min a b) (max a b))) := by
  simp only [Aig.andW, Aig.andO, h, h2, h3, if_true, if_false]; rfl
theorem andW4 (h : ¬ (min a b = 0 ∨ min a b = turn (max a b))) (h2 : ¬ (min a b = 1 ∨ min a b = max a b)) (h3 : ¬ 0 ≤ g.find (min a b) (max a b)) (h4 : g.count = 65536) : g.andW 0 a b = (g, 2, 0) := by
  simp only [Aig.andW, Aig.andO, h, h2, h3, h4, if_true, if_false]; rfl
theorem andW5 (h : ¬ (min a b = 0 ∨ min a b = turn (max a b))) (h2 : ¬ (min a b = 1 ∨ min a b = max a b)) (h3 : ¬ 0 ≤ g.find (min a b) (max a b)) (h4 : ¬ g.count = 65536) :
    g.andW 0 a b = ({ g with ands := g.ands ++ [(min a b, max a b)] }, 0, 2 * (g.count + 1)) := by
  simp only [Aig.andW, Aig.andO, h, h2, h3, h4, if_false]; rfl
theorem count_push (x : Int × Int) : ({ g with ands := g.ands ++ [x] } : Aig).count = g.count + 1 := by simp [Aig.count]; omega
end
theorem szs_gate (l : List (Int × Int)) : szs 2 (l.map encGate) = True := szs_map _ _ _ fun _ => rfl
theorem szs_flop (l : List Flop) : szs 2 (l.map encFlop) = True := szs_map _ _ _ fun _ => rfl
theorem szs_int (l : List Int) : szs 1 (l.map encInt) = True := szs_map _ _ _ fun _ => rfl
theorem szs_bool (l : List Bool) : szs 1 (l.map encBool) = True := szs_map _ _ _ fun _ => rfl
attribute [go_sem] szs_gate szs_flop szs_int szs_bool

/-! ### Making gates -/
structure Ext (g g' : Aig) : Prop where
  ins : g'.ins = g.ins
  flops : g'.flops = g.flops
  outs : g'.outs = g.outs
  ands : ∃ l, g'.ands = g.ands ++ l
theorem Ext.refl (g : Aig) : Ext g g := ⟨rfl, rfl, rfl, [], by simp⟩
theorem Ext.trans {g g' g'' : Aig} (h : Ext g g') (h' : Ext g' g'') : Ext g g'' := by
  obtain ⟨a1, a2, a3, l, a4⟩ := h
  obtain ⟨b1, b2, b3, m, b4⟩ := h'
  exact ⟨b1.trans a1, b2.trans a2, b3.trans a3, l ++ m, by rw [b4, a4, List.append_assoc]⟩
theorem Ext.count {g g' : Aig} (h : Ext g g') : g.count ≤ g'.count := by
  obtain ⟨a1, a2, a3, l, a4⟩ := h
  simp only [Aig.count, a1, a2, a4, List.length_append]; omega
theorem Ext.first {g g' : Aig} (h : Ext g g') : g'.first = g.first := by simp only [Aig.first, h.ins, h.flops]
theorem Ext.lit {g g' : Aig} (h : Ext g g') {a : Int} (ha : g.lit a = true) : g'.lit a = true := by
  have := h.count
  simp only [Aig.lit, litN_iff] at ha ⊢
  omega
structure Fine (g : Aig) : Prop extends Small g where
  cnt : g.count ≤ 65536
  gok : Aig.gatesOk g.first g.ands = true
theorem gatesOk_append {n : Int} : ∀ {l m : List (Int × Int)}, Aig.gatesOk n (l ++ m) = (Aig.gatesOk n l && Aig.gatesOk (n + l.length) m)
  | [], m => by simp [Aig.gatesOk]
  | x :: l, m => by
    simp only [List.cons_append, Aig.gatesOk, gatesOk_append (l := l), List.length_cons, Bool.and_assoc]
    congr 4; simp only [Int.natCast_add]; omega
theorem count_first (g : Aig) : 1 + g.count = g.first + g.ands.length := by simp only [Aig.count, Aig.first]; omega
theorem turn_lit {n a : Int} (h : Aig.litN n a = true) : Aig.litN n (turn a) = true := by
  simp only [litN_iff, turn] at h ⊢; omega
theorem andO_some {g g' : Aig} {p q x : Int} (hf : Fine g) (hp : g.lit p = true) (hq : g.lit q = true) (h : g.andO p q = some (g', x)) : Fine g' ∧ Ext g g' ∧ g'.lit x = true := by
  have hp' := litN_iff.1 hp
  have hq' := litN_iff.1 hq
  have hlo := hf.lo
  have hc : 0 ≤ g.count := by unfold Aig.count; omega
  unfold Aig.andO at h
  simp only at h
  split at h
  · simp at h; obtain ⟨rfl, rfl⟩ := h
    exact ⟨hf, .refl g, by simp only [Aig.lit, litN_iff]; omega⟩
  · rename_i h1
    split at h
    · simp at h; obtain ⟨rfl, rfl⟩ := h
      exact ⟨hf, .refl g, by simp only [Aig.lit, litN_iff]; omega⟩
    · split at h
      · simp at h; obtain ⟨rfl, rfl⟩ := h
        have := idxF_bounds (fun x : Int × Int => decide (min x.1 x.2 = min p q) && decide (max x.1 x.2 = max p q)) g.ands
        have e : g.find (min p q) (max p q) = idxF (fun x : Int × Int => decide (min x.1 x.2 = min p q) && decide (max x.1 x.2 = max p q)) g.ands := rfl
        have cf := count_first g
        refine ⟨hf, .refl g, ?_⟩
        have hff : 1 ≤ g.first := by unfold Aig.first; omega
        simp only [Aig.lit, litN_iff]; omega
      · split at h
        · simp at h
        · rename_i hcn
          simp at h; obtain ⟨rfl, rfl⟩ := h
          have hcc := hf.cnt
          have hlen : (g.ands.length : Int) ≤ 65536 := by simp only [Aig.count] at hcc; omega
          have cp := count_push (g := g) (min p q, max p q)
          have cf := count_first g
          have hsm : Small { g with ands := g.ands ++ [(min p q, max p q)] } := { hf.toSmall with
            ands := by simp; omega
            gates := fun y hy => by
              rcases List.mem_append.1 hy with h | h
              · exact hf.gates y h
              · simp at h; subst h; exact ⟨⟨by simp; omega, by simp; omega⟩, ⟨by simp; omega, by simp; omega⟩⟩ }
          refine ⟨{ hsm with cnt := by omega, gok := ?_ }, ⟨rfl, rfl, rfl, _, rfl⟩, by simp only [Aig.lit, litN_iff]; omega⟩
          show Aig.gatesOk g.first (g.ands ++ [(min p q, max p q)]) = true
          rw [gatesOk_append, hf.gok]
          simp only [Aig.gatesOk, Bool.and_true, Bool.true_and, Bool.and_eq_true, litN_iff]
          omega
theorem andW_err {g : Aig} {e p q : Int} (h : (g.andW e p q).2.1 = 0) : e = 0 := by
  unfold Aig.andW at h
  split at h
  · exact h
  · rename_i h'; simpa using h'
theorem andW_none {g : Aig} {e p q : Int} (h : e ≠ 0) : g.andW e p q = (g, e, 0) := by simp [Aig.andW, h]
theorem andW_ok {g : Aig} {e p q : Int} (hf : e = 0 → Fine g ∧ g.lit p = true ∧ g.lit q = true) :
    ((g.andW e p q).2.1 = 0 → Fine (g.andW e p q).1 ∧ (g.andW e p q).1.lit (g.andW e p q).2.2 = true) ∧ Ext g (g.andW e p q).1 ∧ 0 ≤ (g.andW e p q).2.2 ∧ (g.andW e p q).2.2 ≤ 1000000 := by
  by_cases he : e = 0
  · subst he
    obtain ⟨h1, h2, h3⟩ := hf rfl
    cases ho : g.andO p q with
    | none =>
      have : g.andW 0 p q = (g, 2, 0) := by simp [Aig.andW, ho]
      rw [this]
      exact ⟨fun h => by simp at h, .refl g, by simp, by simp⟩
    | some r =>
      obtain ⟨g', x⟩ := r
      have : g.andW 0 p q = (g', 0, x) := by simp [Aig.andW, ho]
      rw [this]
      obtain ⟨k1, k2, k3⟩ := andO_some h1 h2 h3 ho
      have := litN_iff.1 k3
      have := k1.cnt
      exact ⟨fun _ => ⟨k1, k3⟩, k2, by simp; omega, by simp; omega⟩
  · rw [andW_none he]
    exact ⟨fun h => (he h).elim, .refl g, by simp, by simp⟩
theorem andW_range {g : Aig} {e p q : Int} (hf : e = 0 → Fine g ∧ g.lit p = true ∧ g.lit q = true) : I64 (g.andW e p q).2.2 := by
  obtain ⟨_, _, h1, h2⟩ := andW_ok hf
  exact ⟨by omega, by omega⟩
theorem check_fine {g : Aig} (hs : Wf g) (h : g.check = 0) : Fine g := by
  have hsm := check_small hs h
  unfold Aig.check at h
  split at h
  · simp at h
  · split at h
    · simp at h
    · split at h
      · rename_i hg
        simp only [Aig.good, Bool.and_eq_true] at hg
        exact { hsm with cnt := by omega, gok := hg.1.1 }
      · simp at h
theorem checkL_fine {g : Aig} {l : List Int} (hs : Wf g) (h : g.checkL g.check l = 0) : Fine g ∧ ∀ a ∈ l, g.lit a = true := ⟨check_fine hs (checkL_zero.1 h).1, (checkL_zero.1 h).2⟩
namespace Aig
def And (g : Aig) (a b : Int) : Aig × Int × Int := endW (g.andW (g.checkL g.check [a, b]) a b)
def Or (g : Aig) (a b : Int) : Aig × Int × Int := endW (g.orW (g.checkL g.check [a, b]) a b)
def pairs (g : Aig) (e a b c d : Int) : Aig × Int × Int :=
  let r := g.andW e a b
  let s := r.1.andW r.2.1 c d
  s.1.orW s.2.1 r.2.2 s.2.2
def Xor (g : Aig) (a b : Int) : Aig × Int × Int := endW (g.pairs (g.checkL g.check [a, b]) a (turn b) (turn a) b)
def New (ins : Int) (init : List Bool) : Aig × Int :=
  if ins < 0 then (⟨0, [], [], []⟩, 1) else if 65536 < ins + init.length then (⟨0, [], [], []⟩, 2) else (⟨ins, init.map fun b => ⟨0, b⟩, [], []⟩, 0)
def val (v : List Bool) (a : Int) : Bool := (v.getD (a / 2).toNat false) != decide (a % 2 = 1)
def vals : List Bool → List (Int × Int) → List Bool
  | v, [] => v
  | v, x :: l => vals (v ++ [val v x.1 && val v x.2]) l
def Nodes (g : Aig) (inp st : List Bool) : List Bool × Int :=
  if g.check ≠ 0 then ([], g.check) else if (inp.length : Int) ≠ g.ins ∨ st.length ≠ g.flops.length then ([], 1) else (vals (false :: (inp ++ st)) g.ands, 0)
def Eval (g : Aig) (inp st : List Bool) : List Bool × List Bool × Int :=
  if (g.Nodes inp st).2 ≠ 0 then ([], [], (g.Nodes inp st).2) else (g.outs.map (val (g.Nodes inp st).1), g.flops.map (fun f => val (g.Nodes inp st).1 f.next), 0)
def runs (g : Aig) : List Bool → List (List Bool) → List (List Bool) → List (List Bool) × Int
  | _, out, [] => (out, 0)
  | st, out, inp :: ins => if (g.Eval inp st).2.2 ≠ 0 then ([], (g.Eval inp st).2.2) else runs g (g.Eval inp st).2.1 (out ++ [(g.Eval inp st).1]) ins
def Run (g : Aig) (ins : List (List Bool)) : List (List Bool) × Int := if g.check ≠ 0 then ([], g.check) else g.runs (g.flops.map (·.init)) [] ins
end Aig
theorem vals_append : ∀ (l m : List (Int × Int)) (v : List Bool), Aig.vals v (l ++ m) = Aig.vals (Aig.vals v l) m
  | [], m, v => rfl
  | x :: l, m, v => by simp only [List.cons_append, Aig.vals]; exact vals_append l m _
theorem vals_snoc (l : List (Int × Int)) (x : Int × Int) (v : List Bool) : Aig.vals v (l ++ [x]) = Aig.vals v l ++ [Aig.val (Aig.vals v l) x.1 && Aig.val (Aig.vals v l) x.2] := by
  rw [vals_append]; rfl
theorem vals_length : ∀ (l : List (Int × Int)) (v : List Bool), (Aig.vals v l).length = v.length + l.length
  | [], v => rfl
  | x :: l, v => by simp only [Aig.vals, vals_length l, List.length_append, List.length_cons, List.length_nil]; omega
theorem vals_step {l : List (Int × Int)} {v : List Bool} {i : Nat} (h : i < l.length) :
    Aig.vals v (l.take (i + 1)) = Aig.vals v (l.take i) ++ [Aig.val (Aig.vals v (l.take i)) l[i].1 && Aig.val (Aig.vals v (l.take i)) l[i].2] := by
  rw [List.take_add_one, List.getElem?_eq_getElem h]
  exact vals_snoc _ _ _
theorem vals_len {l : List (Int × Int)} {v : List Bool} {i : Nat} (h : i ≤ l.length) : (Aig.vals v (l.take i)).length = v.length + i := by
  rw [vals_length, List.length_take]; omega
theorem take_succ {α : Type} {l : List α} {i : Nat} (h : i < l.length) : l.take (i + 1) = l.take i ++ [l[i]] := by
  rw [List.take_add_one, List.getElem?_eq_getElem h]; rfl
theorem nodes_ok {g : Aig} {inp st : List Bool} (hs : Wf g) (h : (g.Nodes inp st).2 = 0) : Fine g ∧ g.good = true ∧ (inp.length : Int) = g.ins ∧ st.length = g.flops.length ∧
    (g.Nodes inp st).1 = Aig.vals (false :: (inp ++ st)) g.ands ∧ (((g.Nodes inp st).1.length : Nat) : Int) = 1 + g.count := by
  unfold Aig.Nodes at h ⊢
  split at h
  · rename_i hc; exact (hc h).elim
  · rename_i hc
    have hc' : g.check = 0 := Classical.not_not.1 hc
    split at h
    · simp at h
    · rename_i hl
      have h1 : (inp.length : Int) = g.ins ∧ st.length = g.flops.length := ⟨Classical.not_not.1 fun e => hl (.inl e), Classical.not_not.1 fun e => hl (.inr e)⟩
      rw [if_neg hc, if_neg hl]
      have hg : g.good = true := by
        unfold Aig.check at hc'
        split at hc'
        · simp at hc'
        · split at hc'
          · simp at hc'
          · split at hc'
            · assumption
            · simp at hc'
      refine ⟨check_fine hs hc', hg, h1.1, h1.2, rfl, ?_⟩
      simp only [vals_length, Aig.count, List.length_cons, List.length_append]
      omega
theorem good_outs {g : Aig} (h : g.good = true) {a : Int} (ha : a ∈ g.outs) : 0 ≤ a ∧ a < 2 * (1 + g.count) := by
  simp only [Aig.good, Bool.and_eq_true, Bool.not_eq_true', List.any_eq_false, Bool.not_eq_true, Bool.not_eq_false'] at h
  have := h.2 a ha
  exact litN_iff.1 (by simpa [Aig.lit] using this)
theorem good_flops {g : Aig} (h : g.good = true) {f : Flop} (hf : f ∈ g.flops) : 0 ≤ f.next ∧ f.next < 2 * (1 + g.count) := by
  simp only [Aig.good, Bool.and_eq_true, Bool.not_eq_true', List.any_eq_false, Bool.not_eq_true, Bool.not_eq_false'] at h
  have := h.1.2 f hf
  exact litN_iff.1 (by simpa [Aig.lit] using this)
theorem good_gates {g : Aig} (h : g.good = true) : Aig.gatesOk g.first g.ands = true := by
  simp only [Aig.good, Bool.and_eq_true] at h
  exact h.1.1
theorem find_eq {g : Aig} {a b : Int} (h : a ≤ b) : g.find a b = idxF (fun x : Int × Int => (decide (x.1 = a) && decide (x.2 = b)) || (decide (x.1 = b) && decide (x.2 = a))) g.ands := by
  unfold Aig.find
  congr 1
  funext x
  rw [Bool.eq_iff_iff]
  simp only [Bool.and_eq_true, Bool.or_eq_true, decide_eq_true_eq]
  omega
theorem endW_ok {r : Aig × Int × Int} (h : r.2.1 = 0) : Aig.endW r = (r.1, r.2.2, 0) := by simp [Aig.endW, h]
theorem endW_err {r : Aig × Int × Int} (h : r.2.1 ≠ 0) : Aig.endW r = (⟨0, [], [], []⟩, 0, r.2.1) := by simp [Aig.endW, h]
end Fil

namespace Go.Proofs.Ytjichkelfhcbcaa.A
open Abs Fil
theorem aig_count (o : Nat) (g : Aig) (e : Int) (σ : Sig) (h : σ o = some (workC g e)) (hs : Small g) :
    ACalls Try.prog 105 [.ptr o 0] σ (fun r σ' => r = .ret (.int .i64 g.count) ∧ σ' = σ) := by
  refine calls_x mixed Try.func105 b105 n105 rfl q105 (by simp) ?_; unfold c105 r105
  obtain ⟨⟨h0, h1, h2, h3, h4, h5, h6⟩, h7, h8⟩ := hs
  repeat' (first | simp (maxDischargeDepth := 9) -implicitDefEqProofs -dsimp only [go_sem, seval, *] | simp (disch := omega) only [wrap64])
  exact fin_id ⟨rfl, rfl⟩
theorem aig_first (o : Nat) (g : Aig) (e : Int) (σ : Sig) (h : σ o = some (workC g e)) (hs : Small g) :
    ACalls Try.prog 104 [.ptr o 0] σ (fun r σ' => r = .ret (.int .i64 g.first) ∧ σ' = σ) := by
  refine calls_x mixed Try.func104 b104 n104 rfl q104 (by simp) ?_; unfold c104 r104
  obtain ⟨⟨h0, h1, h2, h3, h4, h5, h6⟩, h7, h8⟩ := hs
  repeat' (first | simp (maxDischargeDepth := 9) -implicitDefEqProofs -dsimp only [go_sem, seval, *] | simp (disch := omega) only [wrap64])
  exact fin_id ⟨rfl, rfl⟩
theorem aig_lit (o : Nat) (g : Aig) (e a : Int) (σ : Sig) (h : σ o = some (workC g e)) (hs : Small g) (ha : I64 a) :
    ACalls Try.prog 93 [.ptr o 0, .int .i64 a] σ (fun r σ' => r = .ret (.bool (g.lit a)) ∧ σ' = σ) := by
  refine calls_x mixed Try.func93 b93 n93 rfl q93 (by simp) ?_; unfold c93 r93
  obtain ⟨ha1, ha2⟩ := ha
  repeat' (first | simp (maxDischargeDepth := 9) -implicitDefEqProofs -dsimp only [go_sem, seval, *] | simp (disch := omega) only [wrap64, tdiv2] | (with_reducible (first | apply Za) <;> intro hq) | ((with_reducible apply ACalls.one1); (focus ((first | with_reducible refine aig_count o g e σ h hs) <;> (first | (simp (maxDischargeDepth := 9) -implicitDefEqProofs -dsimp only [go_sem, seval, *]; done) | omega))); (focus (first | trivial | with_reducible exact rfl | (simp (maxDischargeDepth := 9) -implicitDefEqProofs -dsimp only [go_sem, seval]; done)))))
  · refine fin_eq ?_
    simp (maxDischargeDepth := 9) -implicitDefEqProofs -dsimp only [go_sem, seval]
    rw [Bool.eq_iff_iff]
    simp only [Aig.lit, litN_iff, decide_eq_true_eq]
    omega
  · refine fin_eq ?_
    simp (maxDischargeDepth := 9) -implicitDefEqProofs -dsimp only [go_sem, seval]
    have : ¬ (0 ≤ a) := by omega
    simp [Aig.lit, Aig.litN, this]
theorem aig_check1 (b o : Nat) (f : Flop) (g : Aig) (e : Int) (σ : Sig) (hb : σ b = some (.cells [.ptr o 0])) (h : σ o = some (workC g e)) (hs : Small g) (hf : I64 f.next) :
    ACalls Try.prog 115 [encFlop f, .ptr b 0] σ (fun r σ' => r = .ret (.bool (!g.lit f.next)) ∧ σ' = σ) := by
  refine calls_x mixed Try.func115 b115 n115 rfl q115 (by simp) ?_; unfold c115 r115
  repeat' (first | simp (maxDischargeDepth := 9) -implicitDefEqProofs -dsimp only [go_sem, seval, *] | ((with_reducible apply ACalls.one1); (focus ((first | with_reducible refine aig_lit o g e f.next σ h hs hf) <;> (first | (simp (maxDischargeDepth := 9) -implicitDefEqProofs -dsimp only [go_sem, seval, *]; done) | omega))); (focus (first | trivial | with_reducible exact rfl | (simp (maxDischargeDepth := 9) -implicitDefEqProofs -dsimp only [go_sem, seval]; done)))))
  exact fin_id ⟨rfl, rfl⟩
theorem aig_check2 (b o : Nat) (a : Int) (g : Aig) (e : Int) (σ : Sig) (hb : σ b = some (.cells [.ptr o 0])) (h : σ o = some (workC g e)) (hs : Small g) (hf : I64 a) :
    ACalls Try.prog 116 [.int .i64 a, .ptr b 0] σ (fun r σ' => r = .ret (.bool (!g.lit a)) ∧ σ' = σ) := by
  refine calls_x mixed Try.func116 b116 n116 rfl q116 (by simp) ?_; unfold c116 r116
  repeat' (first | simp (maxDischargeDepth := 9) -implicitDefEqProofs -dsimp only [go_sem, seval, *] | ((with_reducible apply ACalls.one1); (focus ((first | with_reducible refine aig_lit o g e a σ h hs hf) <;> (first | (simp (maxDischargeDepth := 9) -implicitDefEqProofs -dsimp only [go_sem, seval, *]; done) | omega))); (focus (first | trivial | with_reducible exact rfl | (simp (maxDischargeDepth := 9) -implicitDefEqProofs -dsimp only [go_sem, seval]; done)))))
  exact fin_id ⟨rfl, rfl⟩
theorem sl_indexFlop (p : Flop → Bool) (l : List Flop) (hl : l.length ≤ 1000000000000) (σ : Sig) {F : Nat} {caps : List AV} (hF : ∀ x ∈ l, ACalls Try.prog F (encFlop x :: caps) σ (fun r σ' => r = .ret (.bool (p x)) ∧ σ' = σ)) :
    ACalls Try.prog 123 [.slice (l.map encFlop) .no, .fn F [] caps] σ (fun r σ' => r = .ret (.int .i64 (idxF p l)) ∧ σ' = σ) :=
  lib_indexFunc (sz := 2) (g := true) mixed Try.func123 b123 n123 rfl q123 (fun _ => rfl) (fun _ => rfl) p l hl hF
theorem sl_indexInt (p : Int → Bool) (l : List Int) (hl : l.length ≤ 1000000000000) (σ : Sig) {F : Nat} {caps : List AV} (hF : ∀ x ∈ l, ACalls Try.prog F (encInt x :: caps) σ (fun r σ' => r = .ret (.bool (p x)) ∧ σ' = σ)) :
    ACalls Try.prog 114 [.slice (l.map encInt) .no, .fn F [] caps] σ (fun r σ' => r = .ret (.int .i64 (idxF p l)) ∧ σ' = σ) :=
  lib_indexFunc (sz := 1) (g := false) mixed Try.func114 b114 n114 rfl q114 (fun _ => rfl) (fun _ => rfl) p l hl hF
theorem sl_indexGate (p : Int × Int → Bool) (l : List (Int × Int)) (hl : l.length ≤ 1000000000000) (σ : Sig) {F : Nat} {caps : List AV} (hF : ∀ x ∈ l, ACalls Try.prog F (encGate x :: caps) σ (fun r σ' => r = .ret (.bool (p x)) ∧ σ' = σ)) :
    ACalls Try.prog 102 [.slice (l.map encGate) .no, .fn F [] caps] σ (fun r σ' => r = .ret (.int .i64 (idxF p l)) ∧ σ' = σ) :=
  lib_indexFunc (sz := 2) (g := true) mixed Try.func102 b102 n102 rfl q102 (fun _ => rfl) (fun _ => rfl) p l hl hF
theorem sl_containsFlop (p : Flop → Bool) (l : List Flop) (hl : l.length ≤ 1000000000000) (σ : Sig) {F : Nat} {caps : List AV} (hF : ∀ x ∈ l, ACalls Try.prog F (encFlop x :: caps) σ (fun r σ' => r = .ret (.bool (p x)) ∧ σ' = σ)) :
    ACalls Try.prog 117 [.slice (l.map encFlop) .no, .fn F [] caps] σ (fun r σ' => r = .ret (.bool (l.any p)) ∧ σ' = σ) :=
  lib_containsFunc mixed Try.func117 b117 n117 rfl q117 p l (sl_indexFlop p l hl σ hF)
theorem sl_containsInt (p : Int → Bool) (l : List Int) (hl : l.length ≤ 1000000000000) (σ : Sig) {F : Nat} {caps : List AV} (hF : ∀ x ∈ l, ACalls Try.prog F (encInt x :: caps) σ (fun r σ' => r = .ret (.bool (p x)) ∧ σ' = σ)) :
    ACalls Try.prog 90 [.slice (l.map encInt) .no, .fn F [] caps] σ (fun r σ' => r = .ret (.bool (l.any p)) ∧ σ' = σ) :=
  lib_containsFunc mixed Try.func90 b90 n90 rfl q90 p l (sl_indexInt p l hl σ hF)
theorem sl_clipGate (l : List (Int × Int)) (σ : Sig) :
    ACalls Try.prog 106 [.slice (l.map encGate) .no] σ (fun r σ' => r = .ret (.slice (l.map encGate) .full) ∧ σ' = σ) :=
  lib_clip (sz := 2) mixed Try.func106 b106 n106 rfl q106 (fun _ => rfl) l
theorem aig_check (o : Nat) (g : Aig) (e : Int) (σ : Sig) (h : σ o = some (workC g e)) (hs : Wf g) :
    ACalls Try.prog 92 [.ptr o 0] σ (fun r σ' => r = .ret (.int .i64 g.check) ∧ σ' = σ) := by
  refine calls_x mixed Try.func92 b92 n92 rfl q92 (by simp) ?_; unfold c92 r92
  by_cases hlo : g.ins < 0
  · repeat' (first | simp (maxDischargeDepth := 9) -implicitDefEqProofs -dsimp only [go_sem, seval, *] | simp (disch := omega) only [wrap64] | (with_reducible (first | apply Zb | apply Zc | apply Zr) <;> intro hq) | ((with_reducible refine Zu ?_ ?_); focus omega) | ((with_reducible refine Zt (fun oF hoF hnF hnF' => ?_)); (try simp only [upd_none, ne_eq, not_and] at hoF)))
    refine fin_eq ?_
    have : g.check = 1 := by simp [Aig.check, hlo]
    (repeat' (first | simp (maxDischargeDepth := 9) -implicitDefEqProofs -dsimp only [go_sem, seval, this, *] | simp (disch := omega) only [wrap64])) <;> (repeat' refine And.intro ?_ ?_) <;> (first | omega | rfl | assumption | skip)
  by_cases hhi : 65536 < g.ins
  · repeat' (first | simp (maxDischargeDepth := 9) -implicitDefEqProofs -dsimp only [go_sem, seval, gt_iff_lt, *] | simp (disch := omega) only [wrap64] | (with_reducible (first | apply Zb | apply Zc | apply Zr) <;> intro hq) | ((with_reducible refine Zu ?_ ?_); focus omega) | ((with_reducible refine Zt (fun oF hoF hnF hnF' => ?_)); (try simp only [upd_none, ne_eq, not_and] at hoF)))
    refine fin_eq ?_
    have : g.check = 2 := by simp [Aig.check, hlo, hhi]
    (repeat' (first | simp (maxDischargeDepth := 9) -implicitDefEqProofs -dsimp only [go_sem, seval, this, *] | simp (disch := omega) only [wrap64])) <;> (repeat' refine And.intro ?_ ?_) <;> (first | omega | rfl | assumption | skip)
  have hsm : Small g := ⟨hs, by omega, by omega⟩
  have hfl := hs.flops
  have hol := hs.outs
  repeat' (first | simp (maxDischargeDepth := 9) -implicitDefEqProofs -dsimp only [go_sem, seval, gt_iff_lt, *] | simp (disch := omega) only [wrap64] | (with_reducible (first | apply Zb | apply Zc | apply Zr) <;> intro hq) | ((with_reducible refine Zu ?_ ?_); focus omega) | ((with_reducible refine Zt (fun oF hoF hnF hnF' => ?_)); (try simp only [upd_none, ne_eq, not_and] at hoF)) | ((with_reducible apply ACalls.one1); (focus ((first | with_reducible refine aig_count o g e _ ?_ hsm | with_reducible refine sl_containsFlop (fun f => !g.lit f.next) g.flops ?_ _ (fun f hf => aig_check1 _ o f g e _ ?_ ?_ hsm (hs.nexts f hf)) | with_reducible refine sl_containsInt (fun a => !g.lit a) g.outs ?_ _ (fun a ha => aig_check2 _ o a g e _ ?_ ?_ hsm (hs.lits a ha))) <;> (first | (simp (maxDischargeDepth := 9) -implicitDefEqProofs -dsimp only [go_sem, seval, *]; done) | omega))); (focus (first | trivial | with_reducible exact rfl | (simp (maxDischargeDepth := 9) -implicitDefEqProofs -dsimp only [go_sem, seval]; done)))))
  · refine fin_eq ?_
    have : g.check = 2 := by simp [Aig.check, hlo, hhi, hq]
    (repeat' (first | simp (maxDischargeDepth := 9) -implicitDefEqProofs -dsimp only [go_sem, seval, this, *] | simp (disch := omega) only [wrap64])) <;> (repeat' refine And.intro ?_ ?_) <;> (first | omega | rfl | assumption | skip)
  · refine fin_eq ?_
    have : g.check = 2 := by simp [Aig.check, hlo, hhi, hq]
    (repeat' (first | simp (maxDischargeDepth := 9) -implicitDefEqProofs -dsimp only [go_sem, seval, this, *] | simp (disch := omega) only [wrap64])) <;> (repeat' refine And.intro ?_ ?_) <;> (first | omega | rfl | assumption | skip)
  · refine fin_eq ?_
    have : g.check = 1 := by simp [Aig.check, Aig.good, hlo, hhi, *]
    (repeat' (first | simp (maxDischargeDepth := 9) -implicitDefEqProofs -dsimp only [go_sem, seval, this, *] | simp (disch := omega) only [wrap64])) <;> (repeat' refine And.intro ?_ ?_) <;> (first | omega | rfl | assumption | skip)
  · refine fin_eq ?_
    have : g.check = 1 := by simp [Aig.check, Aig.good, hlo, hhi, *]
    (repeat' (first | simp (maxDischargeDepth := 9) -implicitDefEqProofs -dsimp only [go_sem, seval, this, *] | simp (disch := omega) only [wrap64])) <;> (repeat' refine And.intro ?_ ?_) <;> (first | omega | rfl | assumption | skip)
  · refine loop_rule (fun i : Nat => [(1, some (.ptr oF 0)), (52, some (.slice (g.ands.map encGate) .no)), (53, some (.int .i64 g.ands.length)), (54, some (.int .i64 i))]) (fun _ => upd σ oF (.cells [.ptr o 0])) (fun i => i ≤ g.ands.length ∧ ∀ j, (hj : j < g.ands.length) → j < i → (0 ≤ g.ands[j].1 ∧ g.ands[j].1 < 2 * (g.first + j)) ∧ (0 ≤ g.ands[j].2 ∧ g.ands[j].2 < 2 * (g.first + j))) (fun i => g.ands.length - i) 0 ?_ ?_
    · (repeat' (first | simp (maxDischargeDepth := 9) -implicitDefEqProofs -dsimp only [go_sem, seval, *] | simp (disch := omega) only [wrap64])) <;> (repeat' refine And.intro ?_ ?_) <;> (first | omega | rfl | assumption | skip)
    · rintro i ⟨hi, hb⟩
      have hA := hs.ands
      have hF := hs.flops
      have hfd : 1 ≤ g.first ∧ g.first ≤ 3000000 := by
        have := hsm.lo; have := hsm.hi
        unfold Aig.first; omega
      by_cases hlt : i < g.ands.length
      · have hgate := hs.gates _ (List.getElem_mem hlt)
        obtain ⟨⟨g1, g2⟩, g3, g4⟩ := hgate
        repeat' (first | simp (maxDischargeDepth := 9) -implicitDefEqProofs -dsimp only [go_sem, seval, ge_iff_le, *] | simp (disch := omega) only [wrap64] | (with_reducible (first | apply Zb | apply Zc | apply Zr) <;> intro hq) | ((with_reducible refine Zu ?_ ?_); focus omega) | ((with_reducible refine Zt (fun oF hoF hnF hnF' => ?_)); (try simp only [upd_none, ne_eq, not_and] at hoF)) | ((with_reducible apply ACalls.one1); (focus ((first | with_reducible refine aig_first o g e _ ?_ hsm) <;> (first | (simp (maxDischargeDepth := 9) -implicitDefEqProofs -dsimp only [go_sem, seval, *]; done) | omega))); (focus (first | trivial | with_reducible exact rfl | (simp (maxDischargeDepth := 9) -implicitDefEqProofs -dsimp only [go_sem, seval]; done)))) | ((with_reducible apply id_one0); (focus (intro tS hS; ((first | with_reducible refine aig_first o g e _ ?_ hsm) <;> (first | (simp (maxDischargeDepth := 9) -implicitDefEqProofs -dsimp only [go_sem, seval, *]; done) | omega | ((with_reducible refine Sub.get hS ?_); simp (maxDischargeDepth := 9) -implicitDefEqProofs -dsimp only [go_sem, seval, *]; done))))); (focus (first | trivial | (simp (maxDischargeDepth := 9) -implicitDefEqProofs -dsimp only [go_sem, seval, *]; done)))))
        · have : g.check = 1 := by
            have := gatesOk_false (n := g.first) hlt (by omega)
            simp [Aig.check, Aig.good, hlo, hhi, *]
          refine fin_eq ?_
          (repeat' (first | simp (maxDischargeDepth := 9) -implicitDefEqProofs -dsimp only [go_sem, seval, this, *] | simp (disch := omega) only [wrap64])) <;> (repeat' refine And.intro ?_ ?_) <;> (first | omega | rfl | assumption | skip)
        · refine loop_next _ _ _ _ (i + 1) ?_; (repeat' (first | simp (maxDischargeDepth := 9) -implicitDefEqProofs -dsimp only [go_sem, seval, *] | simp (disch := omega) only [wrap64])) <;> (repeat' refine And.intro ?_ ?_) <;> (first | omega | rfl | assumption | skip)
          intro j hj h
          rcases Nat.lt_or_ge j i with h' | h'
          · exact hb j hj h'
          · obtain rfl : j = i := by omega
            omega
        · have : g.check = 1 := by
            have := gatesOk_false (n := g.first) hlt (by omega)
            simp [Aig.check, Aig.good, hlo, hhi, *]
          refine fin_eq ?_
          (repeat' (first | simp (maxDischargeDepth := 9) -implicitDefEqProofs -dsimp only [go_sem, seval, this, *] | simp (disch := omega) only [wrap64])) <;> (repeat' refine And.intro ?_ ?_) <;> (first | omega | rfl | assumption | skip)
      · repeat' (first | simp (maxDischargeDepth := 9) -implicitDefEqProofs -dsimp only [go_sem, seval, *] | simp (disch := omega) only [wrap64] | (with_reducible (first | apply Zb | apply Zc | apply Zr) <;> intro hq) | ((with_reducible refine Zu ?_ ?_); focus omega) | ((with_reducible refine Zt (fun oF hoF hnF hnF' => ?_)); (try simp only [upd_none, ne_eq, not_and] at hoF)))
        refine fin_eq ?_
        have : g.check = 0 := by
          have : Aig.gatesOk g.first g.ands = true := gatesOk_iff.2 fun j hj => hb j hj (by omega)
          simp [Aig.check, Aig.good, hlo, hhi, *]
        (repeat' (first | simp (maxDischargeDepth := 9) -implicitDefEqProofs -dsimp only [go_sem, seval, this, *] | simp (disch := omega) only [wrap64])) <;> (repeat' refine And.intro ?_ ?_) <;> (first | omega | rfl | assumption | skip)
end Go.Proofs.Ytjichkelfhcbcaa.A

namespace Go.Proofs.Ytjichkelfhcbcaa.A
open Abs Fil
theorem aig_begin (g : Aig) (l : List Int) (σ : Sig) (hs : Wf g) (hl : l.length ≤ 1000000) (hi : ∀ a ∈ l, I64 a) :
    ACalls Try.prog 66 [encAig g, .slice (l.map encInt) .no] σ (NewO σ (fun o => .ptr o 0) (workC g (g.checkL g.check l))) := by
  refine calls_x mixed Try.func66 b66 n66 rfl q66 (by simp) ?_; unfold c66 r66
  repeat' (first | simp (maxDischargeDepth := 9) -implicitDefEqProofs -dsimp only [go_sem, seval, *] | simp (disch := omega) only [wrap64] | (with_reducible (first | apply Zr) <;> intro hq) | ((with_reducible refine Zu ?_ ?_); focus omega) | ((with_reducible refine Zt (fun oF hoF hnF hnF' => ?_)); (try simp only [upd_none, ne_eq, not_and] at hoF)) | ((with_reducible apply ACalls.one1); (focus ((first | with_reducible refine aig_check _ g 0 _ ?_ hs) <;> (first | (simp (maxDischargeDepth := 9) -implicitDefEqProofs -dsimp only [go_sem, seval, *]; done) | omega))); (focus (first | trivial | with_reducible exact rfl | (simp (maxDischargeDepth := 9) -implicitDefEqProofs -dsimp only [go_sem, seval]; done)))))
  refine loop_rule (fun i : Nat => [(5, some (.ptr oF 0)), (16, some (.slice (l.map encInt) .no)), (17, some (.int .i64 l.length)), (18, some (.int .i64 i))]) (fun i => upd σ oF (workC g (g.checkL g.check (l.take i)))) (fun i => i ≤ l.length) (fun i => l.length - i) 0 ?_ ?_
  · (repeat' (first | simp (maxDischargeDepth := 9) -implicitDefEqProofs -dsimp only [go_sem, seval, Aig.checkL, *] | simp (disch := omega) only [wrap64])) <;> (repeat' refine And.intro ?_ ?_) <;> (first | omega | rfl | assumption | skip)
  · intro i hi'
    by_cases hlt : i < l.length
    · have hi2 := hi _ (List.getElem_mem hlt)
      have step : g.checkL g.check (l.take (i + 1)) = if g.checkL g.check (l.take i) = 0 ∧ g.lit l[i] = false then 1 else g.checkL g.check (l.take i) := by
        rw [List.take_add_one, List.getElem?_eq_getElem hlt]
        exact checkL_snoc g _ _ _
      by_cases he : g.checkL g.check (l.take i) = 0
      · have hsm : Small g := checkL_small hs he
        repeat' (first | simp (maxDischargeDepth := 9) -implicitDefEqProofs -dsimp only [go_sem, seval, *] | simp (disch := omega) only [wrap64] | (with_reducible (first | apply Zr) <;> intro hq) | ((with_reducible refine Zu ?_ ?_); focus omega) | ((with_reducible refine Zt (fun oF hoF hnF hnF' => ?_)); (try simp only [upd_none, ne_eq, not_and] at hoF)) | ((with_reducible apply ACalls.one1); (focus ((first | with_reducible refine aig_lit _ g 0 l[i] _ ?_ hsm hi2) <;> (first | (simp (maxDischargeDepth := 9) -implicitDefEqProofs -dsimp only [go_sem, seval, *]; done) | omega))); (focus (first | trivial | with_reducible exact rfl | (simp (maxDischargeDepth := 9) -implicitDefEqProofs -dsimp only [go_sem, seval]; done)))))
        · have st : g.checkL g.check (l.take (i + 1)) = 0 := by rw [step]; simp [*]
          refine loop_next _ _ _ _ (i + 1) ?_; (repeat' (first | simp (maxDischargeDepth := 9) -implicitDefEqProofs -dsimp only [go_sem, seval, *] | simp (disch := omega) only [wrap64])) <;> (repeat' refine And.intro ?_ ?_) <;> (first | omega | rfl | assumption | skip)
        · have st : g.checkL g.check (l.take (i + 1)) = 1 := by rw [step]; simp [*]
          refine loop_next _ _ _ _ (i + 1) ?_; (repeat' (first | simp (maxDischargeDepth := 9) -implicitDefEqProofs -dsimp only [go_sem, seval, *] | simp (disch := omega) only [wrap64])) <;> (repeat' refine And.intro ?_ ?_) <;> (first | omega | rfl | assumption | skip)
      · have st : g.checkL g.check (l.take (i + 1)) = g.checkL g.check (l.take i) := by rw [step]; simp [*]
        have hb : (g.checkL g.check (l.take i) == 0) = false := by simpa using he
        repeat' (first | simp (maxDischargeDepth := 9) -implicitDefEqProofs -dsimp only [go_sem, seval, *] | simp (disch := omega) only [wrap64] | (with_reducible (first | apply Zr) <;> intro hq) | ((with_reducible refine Zu ?_ ?_); focus omega) | ((with_reducible refine Zt (fun oF hoF hnF hnF' => ?_)); (try simp only [upd_none, ne_eq, not_and] at hoF)))
        refine loop_next _ _ _ _ (i + 1) ?_; (repeat' (first | simp (maxDischargeDepth := 9) -implicitDefEqProofs -dsimp only [go_sem, seval, *] | simp (disch := omega) only [wrap64])) <;> (repeat' refine And.intro ?_ ?_) <;> (first | omega | rfl | assumption | skip)
    · repeat' (first | simp (maxDischargeDepth := 9) -implicitDefEqProofs -dsimp only [go_sem, seval, *] | simp (disch := omega) only [wrap64] | (with_reducible (first | apply Zr) <;> intro hq) | ((with_reducible refine Zu ?_ ?_); focus omega) | ((with_reducible refine Zt (fun oF hoF hnF hnF' => ?_)); (try simp only [upd_none, ne_eq, not_and] at hoF)))
      refine fin_new oF hoF ?_
      have e0 : l.take i = l := List.take_of_length_le (by omega)
      (repeat' (first | simp (maxDischargeDepth := 9) -implicitDefEqProofs -dsimp only [go_sem, seval, e0, *] | simp (disch := omega) only [wrap64])) <;> (repeat' refine And.intro ?_ ?_) <;> (first | omega | rfl | assumption | skip)
theorem aig_and1 (pa pb : Nat) (x : Int × Int) (a b : Int) (σ : Sig) (ha : σ pa = some (.cells [.int .i64 a])) (hb : σ pb = some (.cells [.int .i64 b])) :
    ACalls Try.prog 103 [encGate x, .ptr pa 0, .ptr pb 0] σ (fun r σ' => r = .ret (.bool (decide (min x.1 x.2 = a) && decide (max x.1 x.2 = b))) ∧ σ' = σ) := by
  refine calls_x mixed Try.func103 b103 n103 rfl q103 (by simp) ?_; unfold c103 r103
  repeat' (first | simp (maxDischargeDepth := 9) -implicitDefEqProofs -dsimp only [go_sem, seval, *] | (with_reducible (first | apply Zj) <;> intro hq))
  · have e : min x.1 x.2 = a := by omega
    exact fin_id ⟨by simp [e, Bool.beq_eq_decide_eq], rfl⟩
  · exact fin_id ⟨by simp [hq], rfl⟩
theorem aig_and (o : Nat) (g : Aig) (e a b : Int) (σ : Sig) (h : σ o = some (workC g e)) (hok : e = 0 → Fine g ∧ g.lit a = true ∧ g.lit b = true) :
    ACalls Try.prog 81 [.ptr o 0, .int .i64 a, .int .i64 b] σ (fun r σ' => r = .ret (.int .i64 (g.andW e a b).2.2) ∧ σ' = upd σ o (workC (g.andW e a b).1 (g.andW e a b).2.1)) := by
  refine calls_x mixed Try.func81 b81 n81 rfl q81 (by simp) ?_; unfold c81 r81
  by_cases he : e = 0
  · subst he
    obtain ⟨hfine, ha, hb⟩ := hok rfl
    have hs := hfine.toSmall
    have hcn := hfine.cnt
    have ha' := litN_iff.1 ha
    have hb' := litN_iff.1 hb
    have hcnt : 0 ≤ g.count ∧ g.count ≤ 3000000 := by
      have := hs.lo; have := hs.hi; have := hs.flops; have := hs.ands
      unfold Aig.count; omega
    have hfst : 0 ≤ g.first ∧ g.first ≤ 3000000 := by
      have := hs.lo; have := hs.hi; have := hs.flops
      unfold Aig.first; omega
    have hfb := idxF_bounds (fun x : Int × Int => decide (min x.1 x.2 = min a b) && decide (max x.1 x.2 = max a b)) g.ands
    have hal := hs.ands
    have hpush : ∀ x : Int × Int, I64 x.1 ∧ I64 x.2 → g.ands.length < 1000000 → Small { g with ands := g.ands ++ [x] } := fun x hx hl => { hs with
      ands := by simp; omega
      gates := fun y hy => by
        rcases List.mem_append.1 hy with h | h
        · exact hs.gates y h
        · simp at h; subst h; exact hx }
    repeat' (first | simp (maxDischargeDepth := 9) -implicitDefEqProofs -dsimp only [go_sem, seval, ge_iff_le, *] | simp (disch := omega) only [wrap64, xor1] | (with_reducible (first | apply Zc | apply Zf | apply Zl) <;> intro hq) | ((with_reducible refine Zv ?_ ?_); focus (first | omega | exact rfl)) | ((with_reducible refine Zt (fun oF hoF hnF hnF' => ?_)); (try simp only [upd_none, ne_eq, not_and] at hoF)) | ((with_reducible apply ACalls.one1); (focus ((first | with_reducible refine aig_count o g 0 _ ?_ hs | with_reducible refine aig_first o g 0 _ ?_ hs | with_reducible refine sl_indexGate (fun x : Int × Int => decide (min x.1 x.2 = min a b) && decide (max x.1 x.2 = max a b)) g.ands ?_ _ (fun x _ => aig_and1 _ _ x (min a b) (max a b) _ ?_ ?_) | with_reducible refine sl_clipGate g.ands _) <;> (first | (simp (maxDischargeDepth := 9) -implicitDefEqProofs -dsimp only [go_sem, seval, *]; done) | omega))); (focus (first | trivial | with_reducible exact rfl | (simp (maxDischargeDepth := 9) -implicitDefEqProofs -dsimp only [go_sem, seval]; done)))) | ((with_reducible apply id_one0); (focus (intro tS hS; ((first | with_reducible refine aig_count o g 0 _ ?_ hs | with_reducible refine aig_first o g 0 _ ?_ hs | with_reducible refine sl_indexGate (fun x : Int × Int => decide (min x.1 x.2 = min a b) && decide (max x.1 x.2 = max a b)) g.ands ?_ _ (fun x _ => aig_and1 _ _ x (min a b) (max a b) _ ?_ ?_) | with_reducible refine sl_clipGate g.ands _) <;> (first | (simp (maxDischargeDepth := 9) -implicitDefEqProofs -dsimp only [go_sem, seval, *]; done) | omega | ((with_reducible refine Sub.get hS ?_); simp (maxDischargeDepth := 9) -implicitDefEqProofs -dsimp only [go_sem, seval, *]; done))))); (focus (first | trivial | (simp (maxDischargeDepth := 9) -implicitDefEqProofs -dsimp only [go_sem, seval, *]; done)))))
    all_goals try refine fin_eq ?_
    all_goals first | (rw [andW1 (by omega)]; (repeat' (first | simp (maxDischargeDepth := 9) -implicitDefEqProofs -dsimp only [go_sem, seval, *] | simp (disch := omega) only [wrap64, xor1])) <;> (repeat' refine And.intro ?_ ?_) <;> (first | omega | rfl | assumption | skip)) | (rw [andW2 (by omega) (by omega)]; (repeat' (first | simp (maxDischargeDepth := 9) -implicitDefEqProofs -dsimp only [go_sem, seval, *] | simp (disch := omega) only [wrap64, xor1])) <;> (repeat' refine And.intro ?_ ?_) <;> (first | omega | rfl | assumption | skip)) | (rw [andW3 (by omega) (by omega) hq]; (repeat' (first | simp (maxDischargeDepth := 9) -implicitDefEqProofs -dsimp only [go_sem, seval, *] | simp (disch := omega) only [wrap64, xor1])) <;> (repeat' refine And.intro ?_ ?_) <;> (first | omega | rfl | assumption | skip)) | (rw [andW4 (by omega) (by omega) ‹_› (by omega)]; (repeat' (first | simp (maxDischargeDepth := 9) -implicitDefEqProofs -dsimp only [go_sem, seval, *] | simp (disch := omega) only [wrap64, xor1])) <;> (repeat' refine And.intro ?_ ?_) <;> (first | omega | rfl | assumption | skip)) | skip
    have hlt : g.ands.length < 1000000 := by
      have := hs.lo
      simp only [Aig.count] at hcn
      omega
    have hs' := hpush (min a b, max a b) ⟨⟨by omega, by omega⟩, ⟨by omega, by omega⟩⟩ hlt
    refine ACalls.one (ACalls.flo (o := o) (x0 := workC { g with ands := g.ands ++ [(min a b, max a b)] } 0) ?_ (aig_count o { g with ands := g.ands ++ [(min a b, max a b)] } 0 _ (upd_same _ _ _) hs')) ?_
    · (repeat' (first | simp (maxDischargeDepth := 9) -implicitDefEqProofs -dsimp only [go_sem, seval, *] | simp (disch := omega) only [wrap64, xor1])) <;> (repeat' refine And.intro ?_ ?_) <;> (first | omega | rfl | assumption | skip)
    have hc' := count_push (g := g) (min a b, max a b)
    repeat' (first | simp (maxDischargeDepth := 9) -implicitDefEqProofs -dsimp only [go_sem, seval, *] | simp (disch := omega) only [wrap64, xor1] | (with_reducible (first | apply Zc | apply Zf | apply Zl) <;> intro hq) | ((with_reducible refine Zv ?_ ?_); focus (first | omega | exact rfl)) | ((with_reducible refine Zt (fun oF hoF hnF hnF' => ?_)); (try simp only [upd_none, ne_eq, not_and] at hoF)))
    refine fin_eq ?_
    rw [andW5 (by omega) (by omega) ‹_› (by omega)]
    (repeat' (first | simp (maxDischargeDepth := 9) -implicitDefEqProofs -dsimp only [go_sem, seval, *] | simp (disch := omega) only [wrap64, xor1])) <;> (repeat' refine And.intro ?_ ?_) <;> (first | omega | rfl | assumption | skip)
  · have hb : (e != 0) = true := by simpa using he
    repeat' (first | simp (maxDischargeDepth := 9) -implicitDefEqProofs -dsimp only [go_sem, seval, *] | simp (disch := omega) only [wrap64, xor1] | (with_reducible (first | apply Zc | apply Zf | apply Zl) <;> intro hq) | ((with_reducible refine Zv ?_ ?_); focus (first | omega | exact rfl)) | ((with_reducible refine Zt (fun oF hoF hnF hnF' => ?_)); (try simp only [upd_none, ne_eq, not_and] at hoF)))
    refine fin_eq ?_
    (repeat' (first | simp (maxDischargeDepth := 9) -implicitDefEqProofs -dsimp only [go_sem, seval, Aig.andW, *] | simp (disch := omega) only [wrap64, xor1])) <;> (repeat' refine And.intro ?_ ?_) <;> (first | omega | rfl | assumption | skip)
theorem aig_or (o : Nat) (g : Aig) (e a b : Int) (σ : Sig) (h : σ o = some (workC g e)) (ha : I64 a) (hb : I64 b) (hok : e = 0 → Fine g ∧ g.lit a = true ∧ g.lit b = true) :
    ACalls Try.prog 83 [.ptr o 0, .int .i64 a, .int .i64 b] σ (fun r σ' => r = .ret (.int .i64 (g.orW e a b).2.2) ∧ σ' = upd σ o (workC (g.orW e a b).1 (g.orW e a b).2.1)) := by
  refine calls_x mixed Try.func83 b83 n83 rfl q83 (by simp) ?_; unfold c83 r83
  have hok' : e = 0 → Fine g ∧ g.lit (turn a) = true ∧ g.lit (turn b) = true := fun he => ⟨(hok he).1, turn_lit (hok he).2.1, turn_lit (hok he).2.2⟩
  obtain ⟨h1, h2⟩ := andW_range hok'
  obtain ⟨ha1, ha2⟩ := ha
  obtain ⟨hb1, hb2⟩ := hb
  repeat' (first | simp (maxDischargeDepth := 9) -implicitDefEqProofs -dsimp only [go_sem, seval, *] | simp (disch := omega) only [xor1] | ((with_reducible apply ACalls.one1); (focus ((first | with_reducible refine aig_and o g e (turn a) (turn b) _ ?_ hok') <;> (first | (simp (maxDischargeDepth := 9) -implicitDefEqProofs -dsimp only [go_sem, seval, *]; done) | omega))); (focus (first | trivial | with_reducible exact rfl | (simp (maxDischargeDepth := 9) -implicitDefEqProofs -dsimp only [go_sem, seval]; done)))))
  exact fin_id ⟨rfl, rfl⟩
theorem aig_end (o : Nat) (g : Aig) (e a : Int) (σ : Sig) (h : σ o = some (workC g e)) :
    ACalls Try.prog 80 [.ptr o 0, .int .i64 a] σ (fun r σ' => r = .ret (.tup [encAig (Aig.endW (g, e, a)).1, .int .i64 (Aig.endW (g, e, a)).2.1, .int .i64 (Aig.endW (g, e, a)).2.2]) ∧ σ' = σ) := by
  refine calls_x mixed Try.func80 b80 n80 rfl q80 (by simp) ?_; unfold c80 r80
  repeat' (first | simp (maxDischargeDepth := 9) -implicitDefEqProofs -dsimp only [go_sem, seval, *] | (with_reducible (first | apply Zi) <;> intro hq) | ((with_reducible refine Zt (fun oF hoF hnF hnF' => ?_)); (try simp only [upd_none, ne_eq, not_and] at hoF)))
  · refine fin_eq ?_
    (repeat' (first | simp (maxDischargeDepth := 9) -implicitDefEqProofs -dsimp only [go_sem, seval, Aig.endW, *])) <;> (repeat' refine And.intro ?_ ?_) <;> (first | omega | rfl | assumption | skip)
  · refine fin_eq ?_
    (repeat' (first | simp (maxDischargeDepth := 9) -implicitDefEqProofs -dsimp only [go_sem, seval, Aig.endW, *])) <;> (repeat' refine And.intro ?_ ?_) <;> (first | omega | rfl | assumption | skip)
end Go.Proofs.Ytjichkelfhcbcaa.A

