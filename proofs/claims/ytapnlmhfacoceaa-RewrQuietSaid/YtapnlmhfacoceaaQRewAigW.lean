/- aig: contracts of the document's answer: and, or, xor, mux. -/
import Derived.Test.YtapnlmhfacoceaaQRewC2
set_option linter.unusedSimpArgs false
set_option linter.unusedVariables false
namespace Fil
open Abs
structure Flop where
 next : Int
 init : Bool
 deriving DecidableEq, Repr
structure Aig where
 ins : Int
 flops : List Flop
 ands : List (Int × Int)
 outs : List Int
 deriving DecidableEq, Repr
abbrev encFlop (f : Flop) : AV := .agg [.int .i64 f.next, .bool f.init]
abbrev encGate (g : Int × Int) : AV := .agg [.int .i64 g.1, .int .i64 g.2]
abbrev encInt (a : Int) : AV := .int .i64 a
abbrev encBool (a : Bool) : AV := .bool a
abbrev aigL (g : Aig) : List AV := [.int .i64 g.ins, .slice (g.flops.map encFlop) .no, .slice (g.ands.map encGate) .no, .slice (g.outs.map encInt) .no]
abbrev encAig (g : Aig) : AV := .agg (aigL g)
abbrev workC (g : Aig) (e : Int) : AObj := .cells [.int .i64 g.ins, .slice (g.flops.map encFlop) .no, .slice (g.ands.map encGate) .no, .slice (g.outs.map encInt) .no, .int .i64 e]
def I64 (a : Int) : Prop := -9223372036854775808 ≤ a ∧ a ≤ 9223372036854775807
structure Wf (g : Aig) : Prop where
 ins : I64 g.ins
 flops : g.flops.length ≤ 1000000
 ands : g.ands.length ≤ 1000000
 outs : g.outs.length ≤ 1000000
 nexts : ∀ f ∈ g.flops, I64 f.next
 gates : ∀ x ∈ g.ands, I64 x.1 ∧ I64 x.2
 lits : ∀ a ∈ g.outs, I64 a
structure Small (g : Aig) : Prop extends Wf g where
 lo : 0 ≤ g.ins
 hi : g.ins ≤ 1000000
namespace Aig
def count (g : Aig) : Int := g.ins + g.flops.length + g.ands.length
def first (g : Aig) : Int := 1 + g.ins + g.flops.length
def litN (n a : Int) : Bool := decide (0 ≤ a) && decide (a < 2 * n)
def lit (g : Aig) (a : Int) : Bool := litN (1 + g.count) a
def gatesOk : Int → List (Int × Int) → Bool
 | _, [] => true
 | n, x :: l => litN n x.1 && litN n x.2 && gatesOk (n + 1) l
def good (g : Aig) : Bool := gatesOk g.first g.ands && !(g.flops.any fun f => !g.lit f.next) && !(g.outs.any fun a => !g.lit a)
def check (g : Aig) : Int :=
 if g.ins < 0 then 1
 else if 65536 < g.ins ∨ 65536 < g.count ∨ 65536 < (g.outs.length : Int) then 2
 else if g.good then 0 else 1
def checkL (g : Aig) : Int → List Int → Int
 | e, [] => e
 | e, a :: l => g.checkL (if e = 0 ∧ g.lit a = false then 1 else e) l
def find (g : Aig) (a b : Int) : Int := idxF (fun x : Int × Int => decide (min x.1 x.2 = a) && decide (max x.1 x.2 = b)) g.ands
def andO (g : Aig) (p q : Int) : Option (Aig × Int) :=
 let a := min p q
 let b := max p q
 if a = 0 ∨ a = turn b then some (g, 0)
 else if a = 1 ∨ a = b then some (g, b)
 else if 0 ≤ g.find a b then some (g, 2 * (g.first + g.find a b))
 else if g.count = 65536 then none
 else some ({ g with ands := g.ands ++ [(a, b)] }, 2 * (g.count + 1))
def andW (g : Aig) (e p q : Int) : Aig × Int × Int :=
 if e ≠ 0 then (g, e, 0) else match g.andO p q with
  | none => (g, 2, 0)
  | some (g', x) => (g', 0, x)
def orW (g : Aig) (e p q : Int) : Aig × Int × Int :=
 let r := g.andW e (turn p) (turn q)
 (r.1, r.2.1, turn r.2.2)
def endW (r : Aig × Int × Int) : Aig × Int × Int := if r.2.1 ≠ 0 then (⟨0, [], [], []⟩, 0, r.2.1) else (r.1, r.2.2, 0)
end Aig
theorem litN_iff {n a : Int} : Aig.litN n a = true ↔ 0 ≤ a ∧ a < 2 * n := by simp [Aig.litN]
theorem gatesOk_iff : ∀ {l : List (Int × Int)} {n : Int}, Aig.gatesOk n l = true ↔ ∀ i, (h : i < l.length) → (0 ≤ l[i].1 ∧ l[i].1 < 2 * (n + i)) ∧ (0 ≤ l[i].2 ∧ l[i].2 < 2 * (n + i))
 | [], n => by simp [Aig.gatesOk]
 | x :: l, n => by
  simp only [Aig.gatesOk, Bool.and_eq_true, litN_iff, gatesOk_iff (l := l) (n := n + 1)]
  constructor
  ·rintro ⟨h1, h2⟩ i hi
   cases i with
   | zero => simpa using h1
   | succ i =>
    have := h2 i (by simpa using hi)
    simp only [List.getElem_cons_succ]
    omega
  ·intro h
   have h0 := h 0 (by simp)
   refine ⟨by simpa using h0, fun i hi => ?_⟩
   have := h (i + 1) (by simpa using hi)
   simp only [List.getElem_cons_succ] at this
   omega
theorem gatesOk_false {l : List (Int × Int)} {n : Int} {i : Nat} (h : i < l.length) (hb : ¬ ((0 ≤ l[i].1 ∧ l[i].1 < 2 * (n + i)) ∧ (0 ≤ l[i].2 ∧ l[i].2 < 2 * (n + i)))) : Aig.gatesOk n l = false := by
 cases hh : Aig.gatesOk n l with
 | false => rfl
 | true => exact (hb (gatesOk_iff.1 hh i h)).elim
theorem checkL_append (g : Aig) : ∀ (l m : List Int) (e : Int), g.checkL e (l ++ m) = g.checkL (g.checkL e l) m
 | [], m, e => rfl
 | a :: l, m, e => by simp only [List.cons_append, Aig.checkL]; exact checkL_append g l m _
theorem checkL_snoc (g : Aig) (l : List Int) (a e : Int) : g.checkL e (l ++ [a]) = if g.checkL e l = 0 ∧ g.lit a = false then 1 else g.checkL e l := by
 rw [checkL_append]; rfl
theorem checkL_ne (g : Aig) : ∀ (l : List Int) (e : Int), e ≠ 0 → g.checkL e l = e
 | [], e, _ => rfl
 | a :: l, e, h => by simp only [Aig.checkL, h, false_and, if_false]; exact checkL_ne g l e h
theorem checkL_zero {g : Aig} : ∀ {l : List Int} {e : Int}, g.checkL e l = 0 ↔ e = 0 ∧ ∀ a ∈ l, g.lit a = true
 | [], e => by simp [Aig.checkL]
 | a :: l, e => by
  simp only [Aig.checkL, checkL_zero (l := l), List.mem_cons, forall_eq_or_imp]
  by_cases he : e = 0
  ·cases h : g.lit a <;> simp [he, h]
  ·simp [he]
theorem check_small {g : Aig} (hs : Wf g) (h : g.check = 0) : Small g := by
 unfold Aig.check at h
 split at h
 ·simp at h
 ·split at h
  ·simp at h
  ·exact ⟨hs, by omega, by omega⟩
theorem checkL_small {g : Aig} {l : List Int} (hs : Wf g) (h : g.checkL g.check l = 0) : Small g := check_small hs (checkL_zero.1 h).1
section
variable {g : Aig} {a b : Int}
theorem andW1 (h : min a b = 0 ∨ min a b = turn (max a b)) : g.andW 0 a b = (g, 0, 0) := by simp [Aig.andW, Aig.andO, h]
theorem andW2 (h : ¬ (min a b = 0 ∨ min a b = turn (max a b))) (h2 : min a b = 1 ∨ min a b = max a b) : g.andW 0 a b = (g, 0, max a b) := by
 simp only [Aig.andW, Aig.andO, h, h2, if_true, if_false]; rfl
theorem andW3 (h : ¬ (min a b = 0 ∨ min a b = turn (max a b))) (h2 : ¬ (min a b = 1 ∨ min a b = max a b)) (h3 : 0 ≤ g.find (min a b) (max a b)) : g.andW 0 a b = (g, 0, 2 * (g.first + g.find (min a b) (max a b))) := by
 simp only [Aig.andW, Aig.andO, h, h2, h3, if_true, if_false]; rfl
theorem andW4 (h : ¬ (min a b = 0 ∨ min a b = turn (max a b))) (h2 : ¬ (min a b = 1 ∨ min a b = max a b)) (h3 : ¬ 0 ≤ g.find (min a b) (max a b)) (h4 : g.count = 65536) : g.andW 0 a b = (g, 2, 0) := by
 simp only [Aig.andW, Aig.andO, h, h2, h3, h4, if_true, if_false]; rfl
theorem andW5 (h : ¬ (min a b = 0 ∨ min a b = turn (max a b))) (h2 : ¬ (min a b = 1 ∨ min a b = max a b)) (h3 : ¬ 0 ≤ g.find (min a b) (max a b)) (h4 : ¬ g.count = 65536) :
  g.andW 0 a b = ({ g with ands := g.ands ++ [(min a b, max a b)] }, 0, 2 * (g.count + 1)) := by
 simp only [Aig.andW, Aig.andO, h, h2, h3, h4, if_false]; rfl
theorem count_push (x : Int × Int) : ({ g with ands := g.ands ++ [x] } : Aig).count = g.count + 1 := by simp [Aig.count]; omega
end
theorem szs_gate (l : List (Int × Int)) : szs 2 (l.map encGate) = True := szs_map _ _ _ fun _ => rfl
theorem szs_flop (l : List Flop) : szs 2 (l.map encFlop) = True := szs_map _ _ _ fun _ => rfl
theorem szs_int (l : List Int) : szs 1 (l.map encInt) = True := szs_map _ _ _ fun _ => rfl
theorem szs_bool (l : List Bool) : szs 1 (l.map encBool) = True := szs_map _ _ _ fun _ => rfl
attribute [go_sem] szs_gate szs_flop szs_int szs_bool

/-! ### Making gates -/
structure Ext (g g' : Aig) : Prop where
 ins : g'.ins = g.ins
 flops : g'.flops = g.flops
 outs : g'.outs = g.outs
 ands : ∃ l, g'.ands = g.ands ++ l
theorem Ext.refl (g : Aig) : Ext g g := ⟨rfl, rfl, rfl, [], by simp⟩
theorem Ext.trans {g g' g'' : Aig} (h : Ext g g') (h' : Ext g' g'') : Ext g g'' := by
 obtain ⟨a1, a2, a3, l, a4⟩ := h
 obtain ⟨b1, b2, b3, m, b4⟩ := h'
 exact ⟨b1.trans a1, b2.trans a2, b3.trans a3, l ++ m, by rw [b4, a4, List.append_assoc]⟩
theorem Ext.count {g g' : Aig} (h : Ext g g') : g.count ≤ g'.count := by
 obtain ⟨a1, a2, a3, l, a4⟩ := h
 simp only [Aig.count, a1, a2, a4, List.length_append]; omega
theorem Ext.first {g g' : Aig} (h : Ext g g') : g'.first = g.first := by simp only [Aig.first, h.ins, h.flops]
theorem Ext.lit {g g' : Aig} (h : Ext g g') {a : Int} (ha : g.lit a = true) : g'.lit a = true := by
 have := h.count
 simp only [Aig.lit, litN_iff] at ha ⊢
 omega
structure Fine (g : Aig) : Prop extends Small g where
 cnt : g.count ≤ 65536
 gok : Aig.gatesOk g.first g.ands = true
theorem gatesOk_append {n : Int} : ∀ {l m : List (Int × Int)}, Aig.gatesOk n (l ++ m) = (Aig.gatesOk n l && Aig.gatesOk (n + l.length) m)
 | [], m => by simp [Aig.gatesOk]
 | x :: l, m => by
  simp only [List.cons_append, Aig.gatesOk, gatesOk_append (l := l), List.length_cons, Bool.and_assoc]
  congr 4; simp only [Int.natCast_add]; omega
theorem count_first (g : Aig) : 1 + g.count = g.first + g.ands.length := by simp only [Aig.count, Aig.first]; omega
theorem turn_lit {n a : Int} (h : Aig.litN n a = true) : Aig.litN n (turn a) = true := by
 simp only [litN_iff, turn] at h ⊢; omega
theorem andO_some {g g' : Aig} {p q x : Int} (hf : Fine g) (hp : g.lit p = true) (hq : g.lit q = true) (h : g.andO p q = some (g', x)) : Fine g' ∧ Ext g g' ∧ g'.lit x = true := by
  have hp' := litN_iff.1 hp
  have hq' := litN_iff.1 hq
  have hlo := hf.lo
  have hc : 0 ≤ g.count := by unfold Aig.count; omega
  unfold Aig.andO at h
  simp only at h
  split at h
  · simp at h; obtain ⟨rfl, rfl⟩ := h
    exact ⟨hf, .refl g, by simp only [Aig.lit, litN_iff]; omega⟩
  · rename_i h1
    split at h
    · simp at h; obtain ⟨rfl, rfl⟩ := h
      exact ⟨hf, .refl g, by simp only [Aig.lit, litN_iff]; omega⟩
    · split at h
      · simp at h; obtain ⟨rfl, rfl⟩ := h
        have := idxF_bounds (fun x : Int × Int => decide (min x.1 x.2 = min p q) && decide (max x.1 x.2 = max p q)) g.ands
        have e : g.find (min p q) (max p q) = idxF (fun x : Int × Int => decide (min x.1 x.2 = min p q) && decide (max x.1 x.2 = max p q)) g.ands := rfl
        have cf := count_first g
        refine ⟨hf, .refl g, ?_⟩
        have hff : 1 ≤ g.first := by unfold Aig.first; omega
        simp only [Aig.lit, litN_iff]; omega
      · split at h
        · simp at h
        · rename_i hcn
          simp at h; obtain ⟨rfl, rfl⟩ := h
          have hcc := hf.cnt
          have hlen : (g.ands.length : Int) ≤ 65536 := by simp only [Aig.count] at hcc; omega
          have cp := count_push (g := g) (min p q, max p q)
          have cf := count_first g
          have hsm : Small { g with ands := g.ands ++ [(min p q, max p q)] } := { hf.toSmall with
            ands := by simp; omega
            gates := fun y hy => by
              rcases List.mem_append.1 hy with h | h
              · exact hf.gates y h
              · simp at h; subst h; exact ⟨⟨by simp; omega, by simp; omega⟩, ⟨by simp; omega, by simp; omega⟩⟩ }
          refine ⟨{ hsm with cnt := by omega, gok := ?_ }, ⟨rfl, rfl, rfl, _, rfl⟩, by simp only [Aig.lit, litN_iff]; omega⟩
          show Aig.gatesOk g.first (g.ands ++ [(min p q, max p q)]) = true
          rw [gatesOk_append, hf.gok]
          simp only [Aig.gatesOk, Bool.and_true, Bool.true_and, Bool.and_eq_true, litN_iff]
          omega
theorem andW_err {g : Aig} {e p q : Int} (h : (g.andW e p q).2.1 = 0) : e = 0 := by
 unfold Aig.andW at h
 split at h
 ·exact h
 ·rename_i h'; simpa using h'
theorem andW_none {g : Aig} {e p q : Int} (h : e ≠ 0) : g.andW e p q = (g, e, 0) := by simp [Aig.andW, h]
theorem andW_ok {g : Aig} {e p q : Int} (hf : e = 0 → Fine g ∧ g.lit p = true ∧ g.lit q = true) :
  ((g.andW e p q).2.1 = 0 → Fine (g.andW e p q).1 ∧ (g.andW e p q).1.lit (g.andW e p q).2.2 = true) ∧ Ext g (g.andW e p q).1 ∧ 0 ≤ (g.andW e p q).2.2 ∧ (g.andW e p q).2.2 ≤ 1000000 := by
 by_cases he : e = 0
 ·subst he
  obtain ⟨h1, h2, h3⟩ := hf rfl
  cases ho : g.andO p q with
  | none =>
   have : g.andW 0 p q = (g, 2, 0) := by simp [Aig.andW, ho]
   rw [this]
   exact ⟨fun h => by simp at h, .refl g, by simp, by simp⟩
  | some r =>
   obtain ⟨g', x⟩ := r
   have : g.andW 0 p q = (g', 0, x) := by simp [Aig.andW, ho]
   rw [this]
   obtain ⟨k1, k2, k3⟩ := andO_some h1 h2 h3 ho
   have := litN_iff.1 k3
   have := k1.cnt
   exact ⟨fun _ => ⟨k1, k3⟩, k2, by simp; omega, by simp; omega⟩
 ·rw [andW_none he]
  exact ⟨fun h => (he h).elim, .refl g, by simp, by simp⟩
theorem check_fine {g : Aig} (hs : Wf g) (h : g.check = 0) : Fine g := by
 have hsm := check_small hs h
 unfold Aig.check at h
 split at h
 ·simp at h
 ·split at h
  ·simp at h
  ·split at h
   ·rename_i hg
    simp only [Aig.good, Bool.and_eq_true] at hg
    exact { hsm with cnt := by omega, gok := hg.1.1 }
   ·simp at h
theorem checkL_fine {g : Aig} {l : List Int} (hs : Wf g) (h : g.checkL g.check l = 0) : Fine g ∧ ∀ a ∈ l, g.lit a = true := ⟨check_fine hs (checkL_zero.1 h).1, (checkL_zero.1 h).2⟩
namespace Aig
def And (g : Aig) (a b : Int) : Aig × Int × Int := endW (g.andW (g.checkL g.check [a, b]) a b)
def pairs (g : Aig) (e a b c d : Int) : Aig × Int × Int :=
 let r := g.andW e a b
 let s := r.1.andW r.2.1 c d
 s.1.orW s.2.1 r.2.2 s.2.2
def New (ins : Int) (init : List Bool) : Aig × Int :=
 if ins < 0 then (⟨0, [], [], []⟩, 1) else if 65536 < ins + init.length then (⟨0, [], [], []⟩, 2) else (⟨ins, init.map fun b => ⟨0, b⟩, [], []⟩, 0)
def val (v : List Bool) (a : Int) : Bool := (v.getD (a / 2).toNat false) != decide (a % 2 = 1)
def vals : List Bool → List (Int × Int) → List Bool
 | v, [] => v
 | v, x :: l => vals (v ++ [val v x.1 && val v x.2]) l
def Nodes (g : Aig) (inp st : List Bool) : List Bool × Int :=
 if g.check ≠ 0 then ([], g.check) else if (inp.length : Int) ≠ g.ins ∨ st.length ≠ g.flops.length then ([], 1) else (vals (false :: (inp ++ st)) g.ands, 0)
def Eval (g : Aig) (inp st : List Bool) : List Bool × List Bool × Int :=
 if (g.Nodes inp st).2 ≠ 0 then ([], [], (g.Nodes inp st).2) else (g.outs.map (val (g.Nodes inp st).1), g.flops.map (fun f => val (g.Nodes inp st).1 f.next), 0)
def levs : List Int → List (Int × Int) → List Int
 | l, [] => l
 | l, x :: r => levs (l ++ [1 + max (l.getD (x.1 / 2).toNat 0) (l.getD (x.2 / 2).toNat 0)]) r
def Levels (g : Aig) : List Int × Int := if g.check ≠ 0 then ([], g.check) else (levs (List.replicate g.first.toNat 0) g.ands, 0)
end Aig
theorem vals_append : ∀ (l m : List (Int × Int)) (v : List Bool), Aig.vals v (l ++ m) = Aig.vals (Aig.vals v l) m
 | [], m, v => rfl
 | x :: l, m, v => by simp only [List.cons_append, Aig.vals]; exact vals_append l m _
theorem vals_snoc (l : List (Int × Int)) (x : Int × Int) (v : List Bool) : Aig.vals v (l ++ [x]) = Aig.vals v l ++ [Aig.val (Aig.vals v l) x.1 && Aig.val (Aig.vals v l) x.2] := by
 rw [vals_append]; rfl
theorem vals_length : ∀ (l : List (Int × Int)) (v : List Bool), (Aig.vals v l).length = v.length + l.length
 | [], v => rfl
 | x :: l, v => by simp only [Aig.vals, vals_length l, List.length_append, List.length_cons, List.length_nil]; omega
theorem vals_step {l : List (Int × Int)} {v : List Bool} {i : Nat} (h : i < l.length) :
  Aig.vals v (l.take (i + 1)) = Aig.vals v (l.take i) ++ [Aig.val (Aig.vals v (l.take i)) l[i].1 && Aig.val (Aig.vals v (l.take i)) l[i].2] := by
 rw [List.take_add_one, List.getElem?_eq_getElem h]
 exact vals_snoc _ _ _
theorem vals_len {l : List (Int × Int)} {v : List Bool} {i : Nat} (h : i ≤ l.length) : (Aig.vals v (l.take i)).length = v.length + i := by
 rw [vals_length, List.length_take]; omega
theorem levs_append : ∀ (l m : List (Int × Int)) (v : List Int), Aig.levs v (l ++ m) = Aig.levs (Aig.levs v l) m
 | [], m, v => rfl
 | x :: l, m, v => by simp only [List.cons_append, Aig.levs]; exact levs_append l m _
theorem levs_length : ∀ (l : List (Int × Int)) (v : List Int), (Aig.levs v l).length = v.length + l.length
 | [], v => rfl
 | x :: l, v => by simp only [Aig.levs, levs_length l, List.length_append, List.length_cons, List.length_nil]; omega
theorem levs_step {l : List (Int × Int)} {v : List Int} {i : Nat} (h : i < l.length) :
  Aig.levs v (l.take (i + 1)) = Aig.levs v (l.take i) ++ [1 + max ((Aig.levs v (l.take i)).getD (l[i].1 / 2).toNat 0) ((Aig.levs v (l.take i)).getD (l[i].2 / 2).toNat 0)] := by
 rw [List.take_add_one, List.getElem?_eq_getElem h]
 show Aig.levs v (l.take i ++ [l[i]]) = _
 rw [levs_append]; rfl
theorem levs_len {l : List (Int × Int)} {v : List Int} {i : Nat} (h : i ≤ l.length) : (Aig.levs v (l.take i)).length = v.length + i := by
 rw [levs_length, List.length_take]; omega
theorem take_succ {α : Type} {l : List α} {i : Nat} (h : i < l.length) : l.take (i + 1) = l.take i ++ [l[i]] := by
 rw [List.take_add_one, List.getElem?_eq_getElem h]; rfl
theorem good_outs {g : Aig} (h : g.good = true) {a : Int} (ha : a ∈ g.outs) : 0 ≤ a ∧ a < 2 * (1 + g.count) := by
 simp only [Aig.good, Bool.and_eq_true, Bool.not_eq_true', List.any_eq_false, Bool.not_eq_true, Bool.not_eq_false'] at h
 have := h.2 a ha
 exact litN_iff.1 (by simpa [Aig.lit] using this)
theorem good_flops {g : Aig} (h : g.good = true) {f : Flop} (hf : f ∈ g.flops) : 0 ≤ f.next ∧ f.next < 2 * (1 + g.count) := by
 simp only [Aig.good, Bool.and_eq_true, Bool.not_eq_true', List.any_eq_false, Bool.not_eq_true, Bool.not_eq_false'] at h
 have := h.1.2 f hf
 exact litN_iff.1 (by simpa [Aig.lit] using this)
theorem levs_bound : ∀ (l : List (Int × Int)) (v : List Int) (b : Int), (∀ x ∈ v, 0 ≤ x ∧ x ≤ b) → 0 ≤ b → ∀ x ∈ Aig.levs v l, 0 ≤ x ∧ x ≤ b + l.length
 | [], v, b, h, _ => fun x hx => by have := h x hx; simp; omega
 | y :: l, v, b, h, hb => by
  have hd : ∀ n, 0 ≤ v.getD n 0 ∧ v.getD n 0 ≤ b := fun n => by
   rcases Nat.lt_or_ge n v.length with hn | hn
   ·rw [List.getD_eq_getElem?_getD, List.getElem?_eq_getElem hn]; exact h _ (List.getElem_mem hn)
   ·rw [List.getD_eq_getElem?_getD, List.getElem?_eq_none hn]; simp; exact hb
  intro x hx
  simp only [Aig.levs] at hx
  have := levs_bound l _ (b + 1) (fun z hz => by
   rcases List.mem_append.1 hz with h' | h'
   ·have := h z h'; omega
   ·have h' := List.mem_singleton.1 h'
    have h1 := hd (y.1 / 2).toNat
    have h2 := hd (y.2 / 2).toNat
    subst h'
    omega) (by omega) x hx
  simp only [List.length_cons, Int.natCast_add]
  omega
theorem checkL_bad {g : Aig} : ∀ {l : List Int} {a : Int}, a ∈ l → g.lit a = false → g.checkL 0 l = 1
 | b :: l, a, ha, hb => by
  simp only [Aig.checkL]
  rcases List.mem_cons.1 ha with rfl | h
  ·simp only [hb, and_self, if_true]; exact checkL_ne g l 1 (by decide)
  ·cases hh : g.lit b with
   | false => simp only [and_self, if_true]; exact checkL_ne g l 1 (by decide)
   | true => simp only [Bool.true_eq_false, and_false, if_false]; exact checkL_bad h hb
theorem find_eq {g : Aig} {a b : Int} (h : a ≤ b) : g.find a b = idxF (fun x : Int × Int => (decide (x.1 = a) && decide (x.2 = b)) || (decide (x.1 = b) && decide (x.2 = a))) g.ands := by
 unfold Aig.find
 congr 1
 funext x
 rw [Bool.eq_iff_iff]
 simp only [Bool.and_eq_true, Bool.or_eq_true, decide_eq_true_eq]
 omega
theorem endW_and {g : Aig} {a b : Int} : Aig.endW (g.andW 0 a b) = match g.andO a b with
  | none => (⟨0, [], [], []⟩, 0, 2)
  | some (g', x) => (g', x, 0) := by
 unfold Aig.andW
 cases g.andO a b with
 | none => rfl
 | some r => rfl
theorem endW_ok {r : Aig × Int × Int} (h : r.2.1 = 0) : Aig.endW r = (r.1, r.2.2, 0) := by simp [Aig.endW, h]
theorem endW_err {r : Aig × Int × Int} (h : r.2.1 ≠ 0) : Aig.endW r = (⟨0, [], [], []⟩, 0, r.2.1) := by simp [Aig.endW, h]
end Fil

namespace Go.Proofs.Ytapnlmhfacoceaa.A
open Abs Fil
theorem aig_count (o : Nat) (g : Aig) (e : Int) (σ : Sig) (h : σ o = some (workC g e)) (hs : Small g) :
  ACalls Try.prog 83 [.ptr o 0] σ (fun r σ' => r = .ret (.int .i64 g.count) ∧ σ' = σ) := by
 refine calls_x mixed Try.func83 b83 n83 rfl q83 (by simp) ?_; unfold c83 r83
 obtain ⟨⟨h0, h1, h2, h3, h4, h5, h6⟩, h7, h8⟩ := hs
 repeat' (first | simp (maxDischargeDepth := 9) -implicitDefEqProofs -dsimp only [go_sem, seval, *] | simp (disch := omega) only [wrap64])
 exact fin_id ⟨rfl, rfl⟩
theorem aig_first (o : Nat) (g : Aig) (e : Int) (σ : Sig) (h : σ o = some (workC g e)) (hs : Small g) :
  ACalls Try.prog 82 [.ptr o 0] σ (fun r σ' => r = .ret (.int .i64 g.first) ∧ σ' = σ) := by
 refine calls_x mixed Try.func82 b82 n82 rfl q82 (by simp) ?_; unfold c82 r82
 obtain ⟨⟨h0, h1, h2, h3, h4, h5, h6⟩, h7, h8⟩ := hs
 repeat' (first | simp (maxDischargeDepth := 9) -implicitDefEqProofs -dsimp only [go_sem, seval, *] | simp (disch := omega) only [wrap64])
 exact fin_id ⟨rfl, rfl⟩
theorem aig_lit (o : Nat) (g : Aig) (e a : Int) (σ : Sig) (h : σ o = some (workC g e)) (hs : Small g) (ha : I64 a) :
  ACalls Try.prog 81 [.ptr o 0, .int .i64 a] σ (fun r σ' => r = .ret (.bool (g.lit a)) ∧ σ' = σ) := by
 refine calls_x mixed Try.func81 b81 n81 rfl q81 (by simp) ?_; unfold c81 r81
 obtain ⟨ha1, ha2⟩ := ha
 repeat' (first | simp (maxDischargeDepth := 9) -implicitDefEqProofs -dsimp only [go_sem, seval, *] | simp (disch := omega) only [wrap64, tdiv2] | (with_reducible (first | apply Za) <;> intro hq) | ((with_reducible apply ACalls.one1); (focus ((with_reducible refine aig_count o g e σ h hs) <;> (first | (simp (maxDischargeDepth := 9) -implicitDefEqProofs -dsimp only [go_sem, seval, *]; done) | omega))); (focus (first | trivial | with_reducible exact rfl | (simp (maxDischargeDepth := 9) -implicitDefEqProofs -dsimp only [go_sem, seval]; done)))))
 ·refine fin_eq ?_
  simp (maxDischargeDepth := 9) -implicitDefEqProofs -dsimp only [go_sem, seval]
  rw [Bool.eq_iff_iff]
  simp only [Aig.lit, litN_iff, decide_eq_true_eq]
  omega
 ·refine fin_eq ?_
  simp (maxDischargeDepth := 9) -implicitDefEqProofs -dsimp only [go_sem, seval]
  have : ¬ (0 ≤ a) := by omega
  simp [Aig.lit, Aig.litN, this]
theorem aig_check1 (b o : Nat) (f : Flop) (g : Aig) (e : Int) (σ : Sig) (hb : σ b = some (.cells [.ptr o 0])) (h : σ o = some (workC g e)) (hs : Small g) (hf : I64 f.next) :
  ACalls Try.prog 87 [encFlop f, .ptr b 0] σ (fun r σ' => r = .ret (.bool (!g.lit f.next)) ∧ σ' = σ) := by
 refine calls_x mixed Try.func87 b87 n87 rfl q87 (by simp) ?_; unfold c87 r87
 repeat' (first | simp (maxDischargeDepth := 9) -implicitDefEqProofs -dsimp only [go_sem, seval, *] | ((with_reducible apply ACalls.one1); (focus ((with_reducible refine aig_lit o g e f.next σ h hs hf) <;> (first | (simp (maxDischargeDepth := 9) -implicitDefEqProofs -dsimp only [go_sem, seval, *]; done) | omega))); (focus (first | trivial | with_reducible exact rfl | (simp (maxDischargeDepth := 9) -implicitDefEqProofs -dsimp only [go_sem, seval]; done)))))
 exact fin_id ⟨rfl, rfl⟩
theorem aig_check2 (b o : Nat) (a : Int) (g : Aig) (e : Int) (σ : Sig) (hb : σ b = some (.cells [.ptr o 0])) (h : σ o = some (workC g e)) (hs : Small g) (hf : I64 a) :
  ACalls Try.prog 88 [.int .i64 a, .ptr b 0] σ (fun r σ' => r = .ret (.bool (!g.lit a)) ∧ σ' = σ) := by
 refine calls_x mixed Try.func88 b88 n88 rfl q88 (by simp) ?_; unfold c88 r88
 repeat' (first | simp (maxDischargeDepth := 9) -implicitDefEqProofs -dsimp only [go_sem, seval, *] | ((with_reducible apply ACalls.one1); (focus ((with_reducible refine aig_lit o g e a σ h hs hf) <;> (first | (simp (maxDischargeDepth := 9) -implicitDefEqProofs -dsimp only [go_sem, seval, *]; done) | omega))); (focus (first | trivial | with_reducible exact rfl | (simp (maxDischargeDepth := 9) -implicitDefEqProofs -dsimp only [go_sem, seval]; done)))))
 exact fin_id ⟨rfl, rfl⟩
theorem sl_indexFlop (p : Flop → Bool) (l : List Flop) (hl : l.length ≤ 1000000000000) (σ : Sig) {F : Nat} {caps : List AV} (hF : ∀ x ∈ l, ACalls Try.prog F (encFlop x :: caps) σ (fun r σ' => r = .ret (.bool (p x)) ∧ σ' = σ)) :
  ACalls Try.prog 94 [.slice (l.map encFlop) .no, .fn F [] caps] σ (fun r σ' => r = .ret (.int .i64 (idxF p l)) ∧ σ' = σ) :=
 lib_indexFunc (sz := 2) (g := true) mixed Try.func94 b94 n94 rfl q94 (fun _ => rfl) (fun _ => rfl) p l hl hF
theorem sl_indexInt (p : Int → Bool) (l : List Int) (hl : l.length ≤ 1000000000000) (σ : Sig) {F : Nat} {caps : List AV} (hF : ∀ x ∈ l, ACalls Try.prog F (encInt x :: caps) σ (fun r σ' => r = .ret (.bool (p x)) ∧ σ' = σ)) :
  ACalls Try.prog 95 [.slice (l.map encInt) .no, .fn F [] caps] σ (fun r σ' => r = .ret (.int .i64 (idxF p l)) ∧ σ' = σ) :=
 lib_indexFunc (sz := 1) (g := false) mixed Try.func95 b95 n95 rfl q95 (fun _ => rfl) (fun _ => rfl) p l hl hF
theorem sl_indexGate (p : Int × Int → Bool) (l : List (Int × Int)) (hl : l.length ≤ 1000000000000) (σ : Sig) {F : Nat} {caps : List AV} (hF : ∀ x ∈ l, ACalls Try.prog F (encGate x :: caps) σ (fun r σ' => r = .ret (.bool (p x)) ∧ σ' = σ)) :
  ACalls Try.prog 96 [.slice (l.map encGate) .no, .fn F [] caps] σ (fun r σ' => r = .ret (.int .i64 (idxF p l)) ∧ σ' = σ) :=
 lib_indexFunc (sz := 2) (g := true) mixed Try.func96 b96 n96 rfl q96 (fun _ => rfl) (fun _ => rfl) p l hl hF
theorem sl_containsFlop (p : Flop → Bool) (l : List Flop) (hl : l.length ≤ 1000000000000) (σ : Sig) {F : Nat} {caps : List AV} (hF : ∀ x ∈ l, ACalls Try.prog F (encFlop x :: caps) σ (fun r σ' => r = .ret (.bool (p x)) ∧ σ' = σ)) :
  ACalls Try.prog 89 [.slice (l.map encFlop) .no, .fn F [] caps] σ (fun r σ' => r = .ret (.bool (l.any p)) ∧ σ' = σ) :=
 lib_containsFunc mixed Try.func89 b89 n89 rfl q89 p l (sl_indexFlop p l hl σ hF)
theorem sl_containsInt (p : Int → Bool) (l : List Int) (hl : l.length ≤ 1000000000000) (σ : Sig) {F : Nat} {caps : List AV} (hF : ∀ x ∈ l, ACalls Try.prog F (encInt x :: caps) σ (fun r σ' => r = .ret (.bool (p x)) ∧ σ' = σ)) :
  ACalls Try.prog 90 [.slice (l.map encInt) .no, .fn F [] caps] σ (fun r σ' => r = .ret (.bool (l.any p)) ∧ σ' = σ) :=
 lib_containsFunc mixed Try.func90 b90 n90 rfl q90 p l (sl_indexInt p l hl σ hF)
theorem sl_clipGate (l : List (Int × Int)) (σ : Sig) :
  ACalls Try.prog 98 [.slice (l.map encGate) .no] σ (fun r σ' => r = .ret (.slice (l.map encGate) .full) ∧ σ' = σ) :=
 lib_clip (sz := 2) mixed Try.func98 b98 n98 rfl q98 (fun _ => rfl) l
theorem aig_check (o : Nat) (g : Aig) (e : Int) (σ : Sig) (h : σ o = some (workC g e)) (hs : Wf g) :
  ACalls Try.prog 80 [.ptr o 0] σ (fun r σ' => r = .ret (.int .i64 g.check) ∧ σ' = σ) := by
 refine calls_x mixed Try.func80 b80 n80 rfl q80 (by simp) ?_; unfold c80 r80
 by_cases hlo : g.ins < 0
 ·repeat' (first | simp (maxDischargeDepth := 9) -implicitDefEqProofs -dsimp only [go_sem, seval, *] | ((with_reducible refine Zt (fun oF hoF hnF hnF' => ?_)); (try simp only [upd_none, ne_eq, not_and] at hoF)))
  refine fin_eq ?_
  have : g.check = 1 := by simp [Aig.check, hlo]
  (repeat' simp (maxDischargeDepth := 9) -implicitDefEqProofs -dsimp only [go_sem, seval, this, *])
 by_cases hhi : 65536 < g.ins
 ·repeat' (first | simp (maxDischargeDepth := 9) -implicitDefEqProofs -dsimp only [go_sem, seval, gt_iff_lt, *] | ((with_reducible refine Zt (fun oF hoF hnF hnF' => ?_)); (try simp only [upd_none, ne_eq, not_and] at hoF)))
  refine fin_eq ?_
  have : g.check = 2 := by simp [Aig.check, hlo, hhi]
  (repeat' simp (maxDischargeDepth := 9) -implicitDefEqProofs -dsimp only [go_sem, seval, this, *])
 have hsm : Small g := ⟨hs, by omega, by omega⟩
 have hfl := hs.flops
 have hol := hs.outs
 repeat' (first | simp (maxDischargeDepth := 9) -implicitDefEqProofs -dsimp only [go_sem, seval, gt_iff_lt, *] | (with_reducible (first | apply Zb | apply Zc | apply Zr) <;> intro hq) | ((with_reducible refine Zt (fun oF hoF hnF hnF' => ?_)); (try simp only [upd_none, ne_eq, not_and] at hoF)) | ((with_reducible apply ACalls.one1); (focus ((first | with_reducible refine aig_count o g e _ ?_ hsm | with_reducible refine sl_containsFlop (fun f => !g.lit f.next) g.flops ?_ _ (fun f hf => aig_check1 _ o f g e _ ?_ ?_ hsm (hs.nexts f hf)) | with_reducible refine sl_containsInt (fun a => !g.lit a) g.outs ?_ _ (fun a ha => aig_check2 _ o a g e _ ?_ ?_ hsm (hs.lits a ha))) <;> (first | (simp (maxDischargeDepth := 9) -implicitDefEqProofs -dsimp only [go_sem, seval, *]; done) | omega))); (focus (first | trivial | with_reducible exact rfl | (simp (maxDischargeDepth := 9) -implicitDefEqProofs -dsimp only [go_sem, seval]; done)))))
 ·refine fin_eq ?_
  have : g.check = 2 := by simp [Aig.check, hlo, hhi, hq]
  (repeat' simp (maxDischargeDepth := 9) -implicitDefEqProofs -dsimp only [go_sem, seval, this, *])
 ·refine fin_eq ?_
  have : g.check = 2 := by simp [Aig.check, hlo, hhi, hq]
  (repeat' simp (maxDischargeDepth := 9) -implicitDefEqProofs -dsimp only [go_sem, seval, this, *])
 ·refine fin_eq ?_
  have : g.check = 1 := by simp [Aig.check, Aig.good, hlo, hhi, *]
  (repeat' simp (maxDischargeDepth := 9) -implicitDefEqProofs -dsimp only [go_sem, seval, this, *])
 ·refine fin_eq ?_
  have : g.check = 1 := by simp [Aig.check, Aig.good, hlo, hhi, *]
  (repeat' simp (maxDischargeDepth := 9) -implicitDefEqProofs -dsimp only [go_sem, seval, this, *])
 ·refine loop_rule (fun i : Nat => [(1, some (.ptr oF 0)), (52, some (.slice (g.ands.map encGate) .no)), (53, some (.int .i64 g.ands.length)), (54, some (.int .i64 i))]) (fun _ => upd σ oF (.cells [.ptr o 0])) (fun i => i ≤ g.ands.length ∧ ∀ j, (hj : j < g.ands.length) → j < i → (0 ≤ g.ands[j].1 ∧ g.ands[j].1 < 2 * (g.first + j)) ∧ (0 ≤ g.ands[j].2 ∧ g.ands[j].2 < 2 * (g.first + j))) (fun i => g.ands.length - i) 0 ?_ ?_
  ·(repeat' simp (maxDischargeDepth := 9) -implicitDefEqProofs -dsimp only [go_sem, seval, *]) <;> (repeat' refine And.intro ?_ ?_) <;> (first | omega | skip)
  ·rintro i ⟨hi, hb⟩
   have hA := hs.ands
   have hF := hs.flops
   have hfd : 1 ≤ g.first ∧ g.first ≤ 3000000 := by
    have := hsm.lo; have := hsm.hi
    unfold Aig.first; omega
   by_cases hlt : i < g.ands.length
   ·have hgate := hs.gates _ (List.getElem_mem hlt)
    obtain ⟨⟨g1, g2⟩, g3, g4⟩ := hgate
    repeat' (first | simp (maxDischargeDepth := 9) -implicitDefEqProofs -dsimp only [go_sem, seval, ge_iff_le, *] | simp (disch := omega) only [wrap64] | (with_reducible (first | apply Zb | apply Zc | apply Zr) <;> intro hq) | ((with_reducible refine Zu ?_ ?_); focus omega) | ((with_reducible refine Zt (fun oF hoF hnF hnF' => ?_)); (try simp only [upd_none, ne_eq, not_and] at hoF)) | ((with_reducible apply id_one0); (focus (intro tS hS; ((with_reducible refine aig_first o g e _ ?_ hsm) <;> (first | (simp (maxDischargeDepth := 9) -implicitDefEqProofs -dsimp only [go_sem, seval, *]; done) | omega | ((with_reducible refine Sub.get hS ?_); simp (maxDischargeDepth := 9) -implicitDefEqProofs -dsimp only [go_sem, seval, *]; done))))); (focus (first | trivial | (simp (maxDischargeDepth := 9) -implicitDefEqProofs -dsimp only [go_sem, seval, *]; done)))))
    ·have : g.check = 1 := by
      have := gatesOk_false (n := g.first) hlt (by omega)
      simp [Aig.check, Aig.good, hlo, hhi, *]
     refine fin_eq ?_
     (repeat' simp (maxDischargeDepth := 9) -implicitDefEqProofs -dsimp only [go_sem, seval, this, *])
    ·refine loop_next _ _ _ _ (i + 1) ?_; (repeat' simp (maxDischargeDepth := 9) -implicitDefEqProofs -dsimp only [go_sem, seval, *]) <;> (repeat' refine And.intro ?_ ?_) <;> (first | omega | skip)
     intro j hj h
     rcases Nat.lt_or_ge j i with h' | h'
     ·exact hb j hj h'
     ·obtain rfl : j = i := by omega
      omega
    ·have : g.check = 1 := by
      have := gatesOk_false (n := g.first) hlt (by omega)
      simp [Aig.check, Aig.good, hlo, hhi, *]
     refine fin_eq ?_
     (repeat' simp (maxDischargeDepth := 9) -implicitDefEqProofs -dsimp only [go_sem, seval, this, *])
   ·repeat' simp (maxDischargeDepth := 9) -implicitDefEqProofs -dsimp only [go_sem, seval, *]
    refine fin_eq ?_
    have : g.check = 0 := by
     have : Aig.gatesOk g.first g.ands = true := gatesOk_iff.2 fun j hj => hb j hj (by omega)
     simp [Aig.check, Aig.good, hlo, hhi, *]
    (repeat' simp (maxDischargeDepth := 9) -implicitDefEqProofs -dsimp only [go_sem, seval, this, *])
end Go.Proofs.Ytapnlmhfacoceaa.A

namespace Go.Proofs.Ytapnlmhfacoceaa.A
open Abs Fil
theorem aig_begin (g : Aig) (l : List Int) (σ : Sig) (hs : Wf g) (hl : l.length ≤ 1000000) (hi : ∀ a ∈ l, I64 a) :
  ACalls Try.prog 59 [encAig g, .slice (l.map encInt) .no] σ (NewO σ (fun o => .ptr o 0) (workC g (g.checkL g.check l))) := by
 refine calls_x mixed Try.func59 b59 n59 rfl q59 (by simp) ?_; unfold c59 r59
 repeat' (first | simp (maxDischargeDepth := 9) -implicitDefEqProofs -dsimp only [go_sem, seval, *] | ((with_reducible refine Zt (fun oF hoF hnF hnF' => ?_)); (try simp only [upd_none, ne_eq, not_and] at hoF)) | ((with_reducible apply ACalls.one1); (focus ((with_reducible refine aig_check _ g 0 _ ?_ hs) <;> (first | (simp (maxDischargeDepth := 9) -implicitDefEqProofs -dsimp only [go_sem, seval, *]; done) | omega))); (focus (first | trivial | with_reducible exact rfl | (simp (maxDischargeDepth := 9) -implicitDefEqProofs -dsimp only [go_sem, seval]; done)))))
 refine loop_rule (fun i : Nat => [(5, some (.ptr oF 0)), (16, some (.slice (l.map encInt) .no)), (17, some (.int .i64 l.length)), (18, some (.int .i64 i))]) (fun i => upd σ oF (workC g (g.checkL g.check (l.take i)))) (fun i => i ≤ l.length) (fun i => l.length - i) 0 ?_ ?_
 ·(repeat' simp (maxDischargeDepth := 9) -implicitDefEqProofs -dsimp only [go_sem, seval, Aig.checkL, *]) <;> (first | omega | skip)
 ·intro i hi'
  by_cases hlt : i < l.length
  ·have hi2 := hi _ (List.getElem_mem hlt)
   have step : g.checkL g.check (l.take (i + 1)) = if g.checkL g.check (l.take i) = 0 ∧ g.lit l[i] = false then 1 else g.checkL g.check (l.take i) := by
    rw [List.take_add_one, List.getElem?_eq_getElem hlt]
    exact checkL_snoc g _ _ _
   by_cases he : g.checkL g.check (l.take i) = 0
   ·have hsm : Small g := checkL_small hs he
    repeat' (first | simp (maxDischargeDepth := 9) -implicitDefEqProofs -dsimp only [go_sem, seval, *] | simp (disch := omega) only [wrap64] | (with_reducible (first | apply Zr) <;> intro hq) | ((with_reducible refine Zu ?_ ?_); focus omega) | ((with_reducible apply ACalls.one1); (focus ((with_reducible refine aig_lit _ g 0 l[i] _ ?_ hsm hi2) <;> (first | (simp (maxDischargeDepth := 9) -implicitDefEqProofs -dsimp only [go_sem, seval, *]; done) | omega))); (focus (first | trivial | with_reducible exact rfl | (simp (maxDischargeDepth := 9) -implicitDefEqProofs -dsimp only [go_sem, seval]; done)))))
    ·have st : g.checkL g.check (l.take (i + 1)) = 0 := by rw [step]; simp [*]
     refine loop_next _ _ _ _ (i + 1) ?_; (repeat' simp (maxDischargeDepth := 9) -implicitDefEqProofs -dsimp only [go_sem, seval, *]) <;> (repeat' refine And.intro ?_ ?_) <;> (first | omega | skip)
    ·have st : g.checkL g.check (l.take (i + 1)) = 1 := by rw [step]; simp [*]
     refine loop_next _ _ _ _ (i + 1) ?_; (repeat' simp (maxDischargeDepth := 9) -implicitDefEqProofs -dsimp only [go_sem, seval, *]) <;> (repeat' refine And.intro ?_ ?_) <;> (first | omega | skip)
   ·have st : g.checkL g.check (l.take (i + 1)) = g.checkL g.check (l.take i) := by rw [step]; simp [*]
    have hb : (g.checkL g.check (l.take i) == 0) = false := by simpa using he
    repeat' (first | simp (maxDischargeDepth := 9) -implicitDefEqProofs -dsimp only [go_sem, seval, *] | simp (disch := omega) only [wrap64] | ((with_reducible refine Zu ?_ ?_); focus omega))
    refine loop_next _ _ _ _ (i + 1) ?_; (repeat' simp (maxDischargeDepth := 9) -implicitDefEqProofs -dsimp only [go_sem, seval, *]) <;> (repeat' refine And.intro ?_ ?_) <;> (first | omega | skip)
  ·repeat' simp (maxDischargeDepth := 9) -implicitDefEqProofs -dsimp only [go_sem, seval, *]
   refine fin_new oF hoF ?_
   have e0 : l.take i = l := List.take_of_length_le (by omega)
   (repeat' simp (maxDischargeDepth := 9) -implicitDefEqProofs -dsimp only [go_sem, seval, e0, *])
theorem aig_and1 (pa pb : Nat) (x : Int × Int) (a b : Int) (σ : Sig) (ha : σ pa = some (.cells [.int .i64 a])) (hb : σ pb = some (.cells [.int .i64 b])) :
  ACalls Try.prog 97 [encGate x, .ptr pa 0, .ptr pb 0] σ (fun r σ' => r = .ret (.bool (decide (min x.1 x.2 = a) && decide (max x.1 x.2 = b))) ∧ σ' = σ) := by
 refine calls_x mixed Try.func97 b97 n97 rfl q97 (by simp) ?_; unfold c97 r97
 repeat' (first | simp (maxDischargeDepth := 9) -implicitDefEqProofs -dsimp only [go_sem, seval, *] | (with_reducible (first | apply Zj) <;> intro hq))
 ·have e : min x.1 x.2 = a := by omega
  exact fin_id ⟨by simp [e, Bool.beq_eq_decide_eq], rfl⟩
 ·exact fin_id ⟨by simp [hq], rfl⟩
end Go.Proofs.Ytapnlmhfacoceaa.A

namespace Go.Proofs.Ytapnlmhfacoceaa.A
open Abs Fil
theorem aig_Check (g : Aig) (σ : Sig) (hs : Wf g) : ACalls Try.prog 26 [encAig g] σ (fun r σ' => r = .ret (.int .i64 g.check) ∧ σ' = σ) := by
 refine calls_x mixed Try.func26 b26 n26 rfl q26 (by simp) ?_; unfold c26 r26
 repeat' (first | simp (maxDischargeDepth := 9) -implicitDefEqProofs -dsimp only [go_sem, seval, *] | ((with_reducible apply ACalls.newO); (focus (first | ((first | with_reducible refine aig_begin g [] _ hs ?_ (by simp)) <;> (first | (simp (maxDischargeDepth := 9) -implicitDefEqProofs -dsimp only [go_sem, seval, *]; done) | omega)) | (with_reducible refine ACalls.flA (aig_begin g [] _ hs ?_ (by simp)) ?_ <;> (first | (simp (maxDischargeDepth := 9) -implicitDefEqProofs -dsimp only [go_sem, seval, *]; done) | omega)))); (intro oF hoF hnF hnF'); (try simp only [upd_none, ne_eq, not_and] at hoF)))
 refine fin_eq ?_
 (repeat' simp (maxDischargeDepth := 9) -implicitDefEqProofs -dsimp only [go_sem, seval, Aig.checkL, *])
end Go.Proofs.Ytapnlmhfacoceaa.A

namespace Go.Proofs.Ytapnlmhfacoceaa.A
open Abs Fil
theorem ref_Lit (n a : Int) (σ : Sig) (h1 : -1000000000 ≤ n) (h2 : n ≤ 1000000000) : ACalls Try.prog 65 [.int .i64 n, .int .i64 a] σ (fun r σ' => r = .ret (.bool (Aig.litN n a)) ∧ σ' = σ) := by
 refine calls_x mixed Try.func65 b65 n65 rfl q65 (by simp) ?_; unfold c65 r65
 repeat' (first | simp (maxDischargeDepth := 9) -implicitDefEqProofs -dsimp only [go_sem, seval, ge_iff_le, *] | simp (disch := omega) only [wrap64] | (with_reducible (first | apply Za) <;> intro hq))
 ·refine fin_eq ?_
  (repeat' simp (maxDischargeDepth := 9) -implicitDefEqProofs -dsimp only [go_sem, seval, Aig.litN, *])
 ·refine fin_eq ?_
  (repeat' simp (maxDischargeDepth := 9) -implicitDefEqProofs -dsimp only [go_sem, seval, Aig.litN, *])
theorem ref_Count (g : Aig) (σ : Sig) (hs : Small g) : ACalls Try.prog 60 [encAig g] σ (fun r σ' => r = .ret (.int .i64 (1 + g.count)) ∧ σ' = σ) := by
 refine calls_x mixed Try.func60 b60 n60 rfl q60 (by simp) ?_; unfold c60 r60
 obtain ⟨⟨h0, h1, h2, h3, h4, h5, h6⟩, h7, h8⟩ := hs
 repeat' (first | simp (maxDischargeDepth := 9) -implicitDefEqProofs -dsimp only [go_sem, seval, *] | simp (disch := omega) only [wrap64])
 exact fin_id ⟨by simp only [Aig.count, Int.add_assoc], rfl⟩
theorem ref_Check (g : Aig) (σ : Sig) (hs : Wf g) : ACalls Try.prog 32 [encAig g] σ (fun r σ' => r = .ret (.int .i64 g.check) ∧ σ' = σ) := by
 refine calls_x mixed Try.func32 b32 n32 rfl q32 (by simp) ?_; unfold c32 r32
 have hfl := hs.flops
 have hal := hs.ands
 have hol := hs.outs
 by_cases hlo : g.ins < 0
 ·have hv : g.check = 1 := by simp [Aig.check, hlo]
  repeat' simp (maxDischargeDepth := 9) -implicitDefEqProofs -dsimp only [go_sem, seval, *]
  refine fin_eq ?_
  (repeat' simp (maxDischargeDepth := 9) -implicitDefEqProofs -dsimp only [go_sem, seval, *])
 by_cases hhi : 65536 < g.ins
 ·have hv : g.check = 2 := by simp [Aig.check, hlo, hhi]
  repeat' simp (maxDischargeDepth := 9) -implicitDefEqProofs -dsimp only [go_sem, seval, gt_iff_lt, *]
  refine fin_eq ?_
  (repeat' simp (maxDischargeDepth := 9) -implicitDefEqProofs -dsimp only [go_sem, seval, *])
 have hsm : Small g := ⟨hs, by omega, by omega⟩
 by_cases hb : 65536 < g.count ∨ 65536 < (g.outs.length : Int)
 ·have hv : g.check = 2 := by simp [Aig.check, hlo, hhi, hb]
  have hb' : 65536 < g.ins + g.flops.length + g.ands.length ∨ 65536 < (g.outs.length : Int) := hb
  repeat' (first | simp (maxDischargeDepth := 9) -implicitDefEqProofs -dsimp only [go_sem, seval, gt_iff_lt, *] | simp (disch := omega) only [wrap64] | (with_reducible (first | apply Zb | apply Zc | apply Zp | apply Zr) <;> intro hq))
  all_goals first | (exfalso; omega) | (refine fin_eq ?_; (repeat' simp (maxDischargeDepth := 9) -implicitDefEqProofs -dsimp only [go_sem, seval, *]))
 have hv : g.check = if g.good then 0 else 1 := by simp [Aig.check, hlo, hhi, hb]
 have hcnt : g.ins + g.flops.length + g.ands.length ≤ 65536 ∧ (g.outs.length : Int) ≤ 65536 := by
  unfold Aig.count at hb; omega
 have hc1 : 0 ≤ g.count ∧ g.count ≤ 65536 := by unfold Aig.count; omega
 have bad1 : ∀ i, (h : i < g.ands.length) → ¬ (Aig.litN (1 + g.ins + g.flops.length + i) g.ands[i].1 = true ∧ Aig.litN (1 + g.ins + g.flops.length + i) g.ands[i].2 = true) → g.good = false := fun i h hn => by
  have : Aig.gatesOk g.first g.ands = false := gatesOk_false h (fun ⟨k1, k2⟩ => hn ⟨litN_iff.2 (by unfold Aig.first at k1; omega), litN_iff.2 (by unfold Aig.first at k2; omega)⟩)
  simp [Aig.good, this]
 have bad2 : ∀ i, (h : i < g.flops.length) → Aig.litN (1 + g.count) g.flops[i].next = false → g.good = false := fun i h hn => by
  have : (g.flops.any fun f => !g.lit f.next) = true := by simp only [List.any_eq_true]; exact ⟨_, List.getElem_mem h, by simp [Aig.lit, hn]⟩
  simp [Aig.good, this]
 have bad3 : ∀ i, (h : i < g.outs.length) → Aig.litN (1 + g.count) g.outs[i] = false → g.good = false := fun i h hn => by
  have : (g.outs.any fun a => !g.lit a) = true := by simp only [List.any_eq_true]; exact ⟨_, List.getElem_mem h, by simp [Aig.lit, hn]⟩
  simp [Aig.good, this]
 have hb2 : ¬ 65536 < (g.outs.length : Int) := by omega
 have hb3 : ¬ 65536 < g.ins + g.flops.length + g.ands.length := by omega
 repeat' (first | simp (maxDischargeDepth := 9) -implicitDefEqProofs -dsimp only [go_sem, seval, gt_iff_lt, *] | simp (disch := omega) only [wrap64])
 refine loop_rule (fun i : Nat => [(4, some (.int .i64 i)), (1, some (.cptr (aigL g))), (3, some (.int .i64 (1 + g.ins + g.flops.length)))]) (fun _ => σ)
  (fun i => i ≤ g.ands.length ∧ ∀ j, (hj : j < g.ands.length) → j < i → Aig.litN (1 + g.ins + g.flops.length + j) g.ands[j].1 = true ∧ Aig.litN (1 + g.ins + g.flops.length + j) g.ands[j].2 = true) (fun i => g.ands.length - i) 0 ?_ ?_
 ·(repeat' simp (maxDischargeDepth := 9) -implicitDefEqProofs -dsimp only [go_sem, seval, *]) <;> (repeat' refine And.intro ?_ ?_) <;> (first | omega | skip)
 ·rintro i ⟨hi, hok1⟩
  by_cases hlt : i < g.ands.length
  ·have hgb := bad1 i hlt
   clear bad1 bad2 bad3
   repeat' (first | simp (maxDischargeDepth := 9) -implicitDefEqProofs -dsimp only [go_sem, seval, *] | simp (disch := omega) only [wrap64] | (with_reducible (first | apply Zb | apply Zc | apply Zp | apply Zr) <;> intro hq) | ((with_reducible refine Zu ?_ ?_); focus omega) | ((with_reducible apply ACalls.one1); (focus ((first | with_reducible refine ref_Lit (1 + g.ins + g.flops.length + i) g.ands[i].1 _ ?_ ?_ | with_reducible refine ref_Lit (1 + g.ins + g.flops.length + i) g.ands[i].2 _ ?_ ?_) <;> (first | (simp (maxDischargeDepth := 9) -implicitDefEqProofs -dsimp only [go_sem, seval, *]; done) | omega))); (focus (first | trivial | with_reducible exact rfl | (simp (maxDischargeDepth := 9) -implicitDefEqProofs -dsimp only [go_sem, seval]; done)))))
   all_goals first | (have hx : g.good = false := hgb (by simp [*]); refine fin_eq ?_; (repeat' simp (maxDischargeDepth := 9) -implicitDefEqProofs -dsimp only [go_sem, seval, Bool.false_eq_true, *]); done) | skip
   refine loop_next _ _ _ _ (i + 1) ?_; (repeat' simp (maxDischargeDepth := 9) -implicitDefEqProofs -dsimp only [go_sem, seval, *]) <;> (repeat' refine And.intro ?_ ?_) <;> (first | omega | skip)
   intro j hj h
   rcases Nat.lt_or_ge j i with h' | h'
   ·exact hok1 j hj h'
   ·obtain rfl : j = i := by omega
    exact ⟨by assumption, by assumption⟩
  ·repeat' simp (maxDischargeDepth := 9) -implicitDefEqProofs -dsimp only [go_sem, seval, *]
   refine loop_rule (fun i : Nat => [(5, some (.int .i64 i)), (1, some (.cptr (aigL g)))]) (fun _ => σ) (fun i => i ≤ g.flops.length ∧ ∀ j, (hj : j < g.flops.length) → j < i → Aig.litN (1 + g.count) g.flops[j].next = true) (fun i => g.flops.length - i) 0 ?_ ?_
   ·(repeat' simp (maxDischargeDepth := 9) -implicitDefEqProofs -dsimp only [go_sem, seval, *]) <;> (repeat' refine And.intro ?_ ?_) <;> (first | omega | skip)
   ·rintro k ⟨hk, hok2⟩
    by_cases hlt2 : k < g.flops.length
    ·have hgb := bad2 k hlt2
     clear bad1 bad2 bad3
     repeat' (first | simp (maxDischargeDepth := 9) -implicitDefEqProofs -dsimp only [go_sem, seval, *] | simp (disch := omega) only [wrap64] | (with_reducible (first | apply Zb | apply Zc | apply Zp | apply Zr) <;> intro hq) | ((with_reducible refine Zu ?_ ?_); focus omega) | ((with_reducible apply id_one0); (focus (intro tS hS; ((first | with_reducible refine ref_Count g _ hsm | with_reducible refine ref_Lit (1 + g.count) g.flops[k].next _ ?_ ?_) <;> (first | (simp (maxDischargeDepth := 9) -implicitDefEqProofs -dsimp only [go_sem, seval, *]; done) | omega | ((with_reducible refine Sub.get hS ?_); simp (maxDischargeDepth := 9) -implicitDefEqProofs -dsimp only [go_sem, seval, *]; done))))); (focus (first | trivial | (simp (maxDischargeDepth := 9) -implicitDefEqProofs -dsimp only [go_sem, seval, *]; done)))))
     ·refine loop_next _ _ _ _ (k + 1) ?_; (repeat' simp (maxDischargeDepth := 9) -implicitDefEqProofs -dsimp only [go_sem, seval, *]) <;> (repeat' refine And.intro ?_ ?_) <;> (first | omega | skip)
      intro j hj h
      rcases Nat.lt_or_ge j k with h' | h'
      ·exact hok2 j hj h'
      ·obtain rfl : j = k := by omega
       assumption
     ·have hx := hgb hq
      refine fin_eq ?_
      (repeat' simp (maxDischargeDepth := 9) -implicitDefEqProofs -dsimp only [go_sem, seval, Bool.false_eq_true, *])
    ·repeat' simp (maxDischargeDepth := 9) -implicitDefEqProofs -dsimp only [go_sem, seval, *]
     refine loop_rule (fun i : Nat => [(6, some (.int .i64 i)), (1, some (.cptr (aigL g)))]) (fun _ => σ) (fun i => i ≤ g.outs.length ∧ ∀ j, (hj : j < g.outs.length) → j < i → Aig.litN (1 + g.count) g.outs[j] = true) (fun i => g.outs.length - i) 0 ?_ ?_
     ·(repeat' simp (maxDischargeDepth := 9) -implicitDefEqProofs -dsimp only [go_sem, seval, *]) <;> (repeat' refine And.intro ?_ ?_) <;> (first | omega | skip)
     ·rintro m ⟨hm, hok3⟩
      by_cases hlt3 : m < g.outs.length
      ·have hgb := bad3 m hlt3
       clear bad1 bad2 bad3
       repeat' (first | simp (maxDischargeDepth := 9) -implicitDefEqProofs -dsimp only [go_sem, seval, *] | simp (disch := omega) only [wrap64] | (with_reducible (first | apply Zb | apply Zc | apply Zp | apply Zr) <;> intro hq) | ((with_reducible refine Zu ?_ ?_); focus omega) | ((with_reducible apply id_one0); (focus (intro tS hS; ((first | with_reducible refine ref_Count g _ hsm | with_reducible refine ref_Lit (1 + g.count) g.outs[m] _ ?_ ?_) <;> (first | (simp (maxDischargeDepth := 9) -implicitDefEqProofs -dsimp only [go_sem, seval, *]; done) | omega | ((with_reducible refine Sub.get hS ?_); simp (maxDischargeDepth := 9) -implicitDefEqProofs -dsimp only [go_sem, seval, *]; done))))); (focus (first | trivial | (simp (maxDischargeDepth := 9) -implicitDefEqProofs -dsimp only [go_sem, seval, *]; done)))))
       ·refine loop_next _ _ _ _ (m + 1) ?_; (repeat' simp (maxDischargeDepth := 9) -implicitDefEqProofs -dsimp only [go_sem, seval, *]) <;> (repeat' refine And.intro ?_ ?_) <;> (first | omega | skip)
        intro j hj h
        rcases Nat.lt_or_ge j m with h' | h'
        ·exact hok3 j hj h'
        ·obtain rfl : j = m := by omega
         assumption
       ·have hx := hgb hq
        refine fin_eq ?_
        (repeat' simp (maxDischargeDepth := 9) -implicitDefEqProofs -dsimp only [go_sem, seval, Bool.false_eq_true, *])
      ·have hgood : g.good = true := by
        have q1 : Aig.gatesOk g.first g.ands = true := gatesOk_iff.2 fun j hj => by
         obtain ⟨k1, k2⟩ := hok1 j hj (by omega)
         have k1 := litN_iff.1 k1
         have k2 := litN_iff.1 k2
         unfold Aig.first
         omega
        have q2 : (g.flops.any fun f => !g.lit f.next) = false := by
         simp only [List.any_eq_false, Bool.not_eq_true, Bool.not_eq_false']
         intro f hf
         obtain ⟨j, hj, rfl⟩ := List.getElem_of_mem hf
         exact hok2 j hj (by omega)
        have q3 : (g.outs.any fun a => !g.lit a) = false := by
         simp only [List.any_eq_false, Bool.not_eq_true, Bool.not_eq_false']
         intro f hf
         obtain ⟨j, hj, rfl⟩ := List.getElem_of_mem hf
         exact hok3 j hj (by omega)
        simp [Aig.good, q1, q2, q3]
       clear bad1 bad2 bad3
       repeat' simp (maxDischargeDepth := 9) -implicitDefEqProofs -dsimp only [go_sem, seval, *]
       refine fin_eq ?_
       (repeat' simp (maxDischargeDepth := 9) -implicitDefEqProofs -dsimp only [go_sem, seval, *])
theorem ref_may (g : Aig) (l : List Int) (σ : Sig) (hs : Wf g) (hl : l.length ≤ 1000000) :
  ACalls Try.prog 72 [encAig g, .slice (l.map encInt) .no] σ (fun r σ' => r = .ret (.int .i64 (g.checkL g.check l)) ∧ σ' = σ) := by
 refine calls_x mixed Try.func72 b72 n72 rfl q72 (by simp) ?_; unfold c72 r72
 by_cases h0 : g.check = 0
 ·have hf := check_fine hs h0
  have hsm := hf.toSmall
  have hc := hf.cnt
  have hc1 : 0 ≤ g.count := by have := hf.lo; unfold Aig.count; omega
  have ez : ((0 : Int) != 0) = false := by decide
  repeat' (first | simp (maxDischargeDepth := 9) -implicitDefEqProofs -dsimp only [go_sem, seval, *] | ((with_reducible apply ACalls.one1); (focus ((with_reducible refine ref_Check g _ hs) <;> (first | (simp (maxDischargeDepth := 9) -implicitDefEqProofs -dsimp only [go_sem, seval, *]; done) | omega))); (focus (first | trivial | with_reducible exact rfl | (simp (maxDischargeDepth := 9) -implicitDefEqProofs -dsimp only [go_sem, seval]; done)))))
  refine loop_rule (fun i : Nat => [(6, some (.int .i64 i)), (1, some (.slice (l.map encInt) .no)), (2, some (.cptr (aigL g)))]) (fun _ => σ) (fun i => i ≤ l.length ∧ ∀ j, (hj : j < l.length) → j < i → g.lit l[j] = true) (fun i => l.length - i) 0 ?_ ?_
  ·(repeat' simp (maxDischargeDepth := 9) -implicitDefEqProofs -dsimp only [go_sem, seval, *]) <;> (repeat' refine And.intro ?_ ?_) <;> (first | omega | skip)
  ·rintro i ⟨hi, hok⟩
   by_cases hlt : i < l.length
   ·repeat' (first | simp (maxDischargeDepth := 9) -implicitDefEqProofs -dsimp only [go_sem, seval, *] | simp (disch := omega) only [wrap64] | (with_reducible (first | apply Zr) <;> intro hq) | ((with_reducible refine Zu ?_ ?_); focus omega) | ((with_reducible apply id_one0); (focus (intro tS hS; ((first | with_reducible refine ref_Count g _ hsm | with_reducible refine ref_Lit (1 + g.count) l[i] _ ?_ ?_) <;> (first | (simp (maxDischargeDepth := 9) -implicitDefEqProofs -dsimp only [go_sem, seval, *]; done) | omega | ((with_reducible refine Sub.get hS ?_); simp (maxDischargeDepth := 9) -implicitDefEqProofs -dsimp only [go_sem, seval, *]; done))))); (focus (first | trivial | (simp (maxDischargeDepth := 9) -implicitDefEqProofs -dsimp only [go_sem, seval, *]; done)))))
    ·refine loop_next _ _ _ _ (i + 1) ?_; (repeat' simp (maxDischargeDepth := 9) -implicitDefEqProofs -dsimp only [go_sem, seval, *]) <;> (repeat' refine And.intro ?_ ?_) <;> (first | omega | skip)
     intro j hj h
     rcases Nat.lt_or_ge j i with h' | h'
     ·exact hok j hj h'
     ·obtain rfl : j = i := by omega
      exact hq
    ·have hv : g.checkL 0 l = 1 := checkL_bad (List.getElem_mem hlt) hq
     refine fin_eq ?_
     (repeat' simp (maxDischargeDepth := 9) -implicitDefEqProofs -dsimp only [go_sem, seval, *])
   ·have hv : g.checkL 0 l = 0 := checkL_zero.2 ⟨rfl, fun a ha => by
     obtain ⟨j, hj, rfl⟩ := List.getElem_of_mem ha
     exact hok j hj (by omega)⟩
    repeat' simp (maxDischargeDepth := 9) -implicitDefEqProofs -dsimp only [go_sem, seval, *]
    refine fin_eq ?_
    (repeat' simp (maxDischargeDepth := 9) -implicitDefEqProofs -dsimp only [go_sem, seval, *])
 ·have hb : (g.check != 0) = true := by simpa using h0
  have hv := checkL_ne g l g.check h0
  repeat' (first | simp (maxDischargeDepth := 9) -implicitDefEqProofs -dsimp only [go_sem, seval, *] | ((with_reducible apply ACalls.one1); (focus ((with_reducible refine ref_Check g _ hs) <;> (first | (simp (maxDischargeDepth := 9) -implicitDefEqProofs -dsimp only [go_sem, seval, *]; done) | omega))); (focus (first | trivial | with_reducible exact rfl | (simp (maxDischargeDepth := 9) -implicitDefEqProofs -dsimp only [go_sem, seval]; done)))))
  refine fin_eq ?_
  (repeat' simp (maxDischargeDepth := 9) -implicitDefEqProofs -dsimp only [go_sem, seval, *])
end Go.Proofs.Ytapnlmhfacoceaa.A

namespace Go.Proofs.Ytapnlmhfacoceaa.A
open Abs Fil
theorem ref_gate (g : Aig) (a b : Int) (σ : Sig) (hs : g.ands.length ≤ 1000000) (h : a ≤ b) :
  ACalls Try.prog 86 [encAig g, .int .i64 a, .int .i64 b] σ (fun r σ' => r = .ret (.int .i64 (g.find a b)) ∧ σ' = σ) := by
 refine calls_x mixed Try.func86 b86 n86 rfl q86 (by simp) ?_; unfold c86 r86
 rw [find_eq h]
 repeat' simp (maxDischargeDepth := 9) -implicitDefEqProofs -dsimp only [go_sem, seval, *]
 refine loop_rule (fun i : Nat => [(7, some (.int .i64 i)), (3, some (.cptr (aigL g))), (1, some (.int .i64 a)), (2, some (.int .i64 b))]) (fun _ => σ)
  (fun i => i ≤ g.ands.length ∧ ∀ j, (hj : j < g.ands.length) → j < i → ((decide (g.ands[j].1 = a) && decide (g.ands[j].2 = b)) || (decide (g.ands[j].1 = b) && decide (g.ands[j].2 = a))) = false) (fun i => g.ands.length - i) 0 ?_ ?_
 ·(repeat' simp (maxDischargeDepth := 9) -implicitDefEqProofs -dsimp only [go_sem, seval, *]) <;> (repeat' refine And.intro ?_ ?_) <;> (first | omega | skip)
 ·rintro i ⟨hi, hb⟩
  by_cases hlt : i < g.ands.length
  ·obtain ⟨x, hx⟩ : ∃ x, g.ands[i] = x := ⟨_, rfl⟩
   by_cases hp : ((decide (x.1 = a) && decide (x.2 = b)) || (decide (x.1 = b) && decide (x.2 = a))) = true
   ·have hv := idxF_some (p := fun x : Int × Int => (decide (x.1 = a) && decide (x.2 = b)) || (decide (x.1 = b) && decide (x.2 = a))) hlt (fun j hj => hb j (by omega) hj) (by rw [hx]; exact hp)
    rw [hv]
    clear hv
    simp only [Bool.or_eq_true, Bool.and_eq_true, decide_eq_true_eq] at hp
    repeat' (first | simp (maxDischargeDepth := 9) -implicitDefEqProofs -dsimp only [go_sem, seval, *] | simp (disch := omega) only [wrap64] | (with_reducible (first | apply Zj | apply Zk | apply Zl) <;> intro hq) | ((with_reducible refine Zu ?_ ?_); focus omega) | ((with_reducible refine Zt (fun oF hoF hnF hnF' => ?_)); (try simp only [upd_none, ne_eq, not_and] at hoF)))
    all_goals first | (exfalso; omega) | (refine fin_eq ?_; (repeat' simp (maxDischargeDepth := 9) -implicitDefEqProofs -dsimp only [go_sem, seval, *]); done)
   ·have hp' := hp
    simp only [Bool.or_eq_true, Bool.and_eq_true, decide_eq_true_eq] at hp
    repeat' (first | simp (maxDischargeDepth := 9) -implicitDefEqProofs -dsimp only [go_sem, seval, *] | simp (disch := omega) only [wrap64] | (with_reducible (first | apply Zj | apply Zk | apply Zl) <;> intro hq) | ((with_reducible refine Zu ?_ ?_); focus omega) | ((with_reducible refine Zt (fun oF hoF hnF hnF' => ?_)); (try simp only [upd_none, ne_eq, not_and] at hoF)))
    all_goals first | (exfalso; omega) | skip
    all_goals
     refine loop_next _ _ _ _ (i + 1) ?_; (repeat' simp (maxDischargeDepth := 9) -implicitDefEqProofs -dsimp only [go_sem, seval, *]) <;> (repeat' refine And.intro ?_ ?_) <;> (first | omega | skip)
     intro j hj h
     rcases Nat.lt_or_ge j i with h' | h'
     ·exact hb j hj h'
     ·obtain rfl : j = i := by omega
      rw [hx]; simpa using hp'
  ·rw [idxF_none (fun a' ha' => by
    obtain ⟨j, hj, rfl⟩ := List.getElem_of_mem ha'
    exact hb j hj (by omega))]
   repeat' simp (maxDischargeDepth := 9) -implicitDefEqProofs -dsimp only [go_sem, seval, *]
   refine fin_eq ?_
   (repeat' simp (maxDischargeDepth := 9) -implicitDefEqProofs -dsimp only [go_sem, seval, *])
end Go.Proofs.Ytapnlmhfacoceaa.A

namespace Go.Proofs.Ytapnlmhfacoceaa.A
open Abs Fil
theorem ref_Same (g h : Aig) (σ : Sig) (l1 : g.flops.length ≤ 1000000) (l2 : g.ands.length ≤ 1000000) (l3 : g.outs.length ≤ 1000000) :
  ACalls Try.prog 19 [encAig g, encAig h] σ (fun r σ' => r = .ret (.bool (decide (g = h))) ∧ σ' = σ) := by
 refine calls_x mixed Try.func19 b19 n19 rfl q19 (by simp) ?_; unfold c19 r19
 have ne1 : g.ins ≠ h.ins → decide (g = h) = false := fun hn => by simp; intro e; exact hn (by rw [e])
 have ne2 : g.flops ≠ h.flops → decide (g = h) = false := fun hn => by simp; intro e; exact hn (by rw [e])
 have ne3 : g.ands ≠ h.ands → decide (g = h) = false := fun hn => by simp; intro e; exact hn (by rw [e])
 have ne4 : g.outs ≠ h.outs → decide (g = h) = false := fun hn => by simp; intro e; exact hn (by rw [e])
 by_cases hi : g.ins = h.ins
 ·by_cases h1 : g.flops.length = h.flops.length
  ·by_cases h2 : g.ands.length = h.ands.length
   ·by_cases h3 : g.outs.length = h.outs.length
    ·have b0 : (h.ins != h.ins) = false := by simp
     repeat' simp (maxDischargeDepth := 9) -implicitDefEqProofs -dsimp only [go_sem, seval, *]
     have h1' := And.intro (Nat.le_of_eq h1) (Nat.le_of_eq h1.symm)
     have h2' := And.intro (Nat.le_of_eq h2) (Nat.le_of_eq h2.symm)
     have h3' := And.intro (Nat.le_of_eq h3) (Nat.le_of_eq h3.symm)
     clear h1 h2 h3
     refine loop_rule (fun i : Nat => [(5, some (.int .i64 i)), (2, some (.cptr (aigL g))), (3, some (.cptr (aigL h)))]) (fun _ => σ) (fun i => i ≤ g.flops.length ∧ ∀ j, (hj : j < g.flops.length) → j < i → g.flops[j] = h.flops[j]) (fun i => g.flops.length - i) 0 ?_ ?_
     ·(repeat' simp (maxDischargeDepth := 9) -implicitDefEqProofs -dsimp only [go_sem, seval, *]) <;> (repeat' refine And.intro ?_ ?_) <;> (first | omega | skip)
     ·rintro i ⟨hi', hok1⟩
      by_cases hlt : i < g.flops.length
      ·have hlt' : i < h.flops.length := by omega
       obtain ⟨x, hx⟩ : ∃ x, g.flops[i] = x := ⟨_, rfl⟩
       obtain ⟨y, hy⟩ : ∃ y, h.flops[i] = y := ⟨_, rfl⟩
       by_cases he : x = y
       ·clear ne1 ne2 ne3 ne4
        subst he
        repeat' (first | simp (maxDischargeDepth := 9) -implicitDefEqProofs -dsimp only [go_sem, seval, *] | simp (disch := omega) only [wrap64] | ((with_reducible refine Zu ?_ ?_); focus omega))
        refine loop_next _ _ _ _ (i + 1) ?_; (repeat' simp (maxDischargeDepth := 9) -implicitDefEqProofs -dsimp only [go_sem, seval, *]) <;> (repeat' refine And.intro ?_ ?_) <;> (first | omega | skip)
        intro j hj hji
        rcases Nat.lt_or_ge j i with h' | h'
        ·exact hok1 j hj h'
        ·obtain rfl : j = i := by omega
         rw [hx, hy]
       ·have hv := ne2 (fun e => he (by rw [← hx, ← hy]; simp only [e]))
        have hb : ((x.next == y.next) && (x.init == y.init)) = false := by
         cases x; cases y; simp at he ⊢; exact he
        clear ne1 ne2 ne3 ne4
        repeat' (first | simp (maxDischargeDepth := 9) -implicitDefEqProofs -dsimp only [go_sem, seval, *] | ((with_reducible refine Zu ?_ ?_); focus omega))
        refine fin_eq ?_
        (repeat' simp (maxDischargeDepth := 9) -implicitDefEqProofs -dsimp only [go_sem, seval, *])
      ·repeat' simp (maxDischargeDepth := 9) -implicitDefEqProofs -dsimp only [go_sem, seval, *]
       refine loop_rule (fun i : Nat => [(6, some (.int .i64 i)), (2, some (.cptr (aigL g))), (3, some (.cptr (aigL h)))]) (fun _ => σ) (fun i => i ≤ g.ands.length ∧ ∀ j, (hj : j < g.ands.length) → j < i → g.ands[j] = h.ands[j]) (fun i => g.ands.length - i) 0 ?_ ?_
       ·(repeat' simp (maxDischargeDepth := 9) -implicitDefEqProofs -dsimp only [go_sem, seval, *]) <;> (repeat' refine And.intro ?_ ?_) <;> (first | omega | skip)
       ·rintro k ⟨hk', hok2⟩
        by_cases hlt2 : k < g.ands.length
        ·have hlt' : k < h.ands.length := by omega
         obtain ⟨x, hx⟩ : ∃ x, g.ands[k] = x := ⟨_, rfl⟩
         obtain ⟨y, hy⟩ : ∃ y, h.ands[k] = y := ⟨_, rfl⟩
         by_cases he : x = y
         ·clear ne1 ne2 ne3 ne4
          subst he
          repeat' (first | simp (maxDischargeDepth := 9) -implicitDefEqProofs -dsimp only [go_sem, seval, *] | simp (disch := omega) only [wrap64] | ((with_reducible refine Zu ?_ ?_); focus omega))
          refine loop_next _ _ _ _ (k + 1) ?_; (repeat' simp (maxDischargeDepth := 9) -implicitDefEqProofs -dsimp only [go_sem, seval, *]) <;> (repeat' refine And.intro ?_ ?_) <;> (first | omega | skip)
          intro j hj hji
          rcases Nat.lt_or_ge j k with h' | h'
          ·exact hok2 j hj h'
          ·obtain rfl : j = k := by omega
           rw [hx, hy]
         ·have hv := ne3 (fun e => he (by rw [← hx, ← hy]; simp only [e]))
          have hb : ((x.1 == y.1) && (x.2 == y.2)) = false := by
           cases x; cases y; simp at he ⊢; exact he
          clear ne1 ne2 ne3 ne4
          repeat' (first | simp (maxDischargeDepth := 9) -implicitDefEqProofs -dsimp only [go_sem, seval, *] | ((with_reducible refine Zu ?_ ?_); focus omega))
          refine fin_eq ?_
          (repeat' simp (maxDischargeDepth := 9) -implicitDefEqProofs -dsimp only [go_sem, seval, *])
        ·repeat' simp (maxDischargeDepth := 9) -implicitDefEqProofs -dsimp only [go_sem, seval, *]
         refine loop_rule (fun i : Nat => [(7, some (.int .i64 i)), (2, some (.cptr (aigL g))), (3, some (.cptr (aigL h)))]) (fun _ => σ) (fun i => i ≤ g.outs.length ∧ ∀ j, (hj : j < g.outs.length) → j < i → g.outs[j] = h.outs[j]) (fun i => g.outs.length - i) 0 ?_ ?_
         ·(repeat' simp (maxDischargeDepth := 9) -implicitDefEqProofs -dsimp only [go_sem, seval, *]) <;> (repeat' refine And.intro ?_ ?_) <;> (first | omega | skip)
         ·rintro m ⟨hm', hok3⟩
          by_cases hlt3 : m < g.outs.length
          ·have hlt' : m < h.outs.length := by omega
           obtain ⟨x, hx⟩ : ∃ x, g.outs[m] = x := ⟨_, rfl⟩
           obtain ⟨y, hy⟩ : ∃ y, h.outs[m] = y := ⟨_, rfl⟩
           by_cases he : x = y
           ·clear ne1 ne2 ne3 ne4
            subst he
            repeat' (first | simp (maxDischargeDepth := 9) -implicitDefEqProofs -dsimp only [go_sem, seval, *] | simp (disch := omega) only [wrap64] | ((with_reducible refine Zu ?_ ?_); focus omega))
            refine loop_next _ _ _ _ (m + 1) ?_; (repeat' simp (maxDischargeDepth := 9) -implicitDefEqProofs -dsimp only [go_sem, seval, *]) <;> (repeat' refine And.intro ?_ ?_) <;> (first | omega | skip)
            intro j hj hji
            rcases Nat.lt_or_ge j m with h' | h'
            ·exact hok3 j hj h'
            ·obtain rfl : j = m := by omega
             rw [hx, hy]
           ·have hv := ne4 (fun e => he (by rw [← hx, ← hy]; simp only [e]))
            have hb : (x != y) = true := by simpa using he
            clear ne1 ne2 ne3 ne4
            repeat' (first | simp (maxDischargeDepth := 9) -implicitDefEqProofs -dsimp only [go_sem, seval, *] | ((with_reducible refine Zu ?_ ?_); focus omega))
            refine fin_eq ?_
            (repeat' simp (maxDischargeDepth := 9) -implicitDefEqProofs -dsimp only [go_sem, seval, *])
          ·have hv : decide (g = h) = true := by
            have q1 : g.flops = h.flops := List.ext_getElem (by omega) fun j hj _ => hok1 j hj (by omega)
            have q2 : g.ands = h.ands := List.ext_getElem (by omega) fun j hj _ => hok2 j hj (by omega)
            have q3 : g.outs = h.outs := List.ext_getElem (by omega) fun j hj _ => hok3 j hj (by omega)
            cases g; cases h; simp_all
           clear ne1 ne2 ne3 ne4
           repeat' simp (maxDischargeDepth := 9) -implicitDefEqProofs -dsimp only [go_sem, seval, *]
           refine fin_eq ?_
           (repeat' simp (maxDischargeDepth := 9) -implicitDefEqProofs -dsimp only [go_sem, seval, *])
    ·have hv := ne4 (fun e => h3 (by rw [e]))
     clear ne1 ne2 ne3 ne4
     repeat' (first | simp (maxDischargeDepth := 9) -implicitDefEqProofs -dsimp only [go_sem, seval, *] | (with_reducible (first | apply Zn | apply Zo) <;> intro hq))
     all_goals first | (exfalso; omega) | (refine fin_eq ?_; (repeat' simp (maxDischargeDepth := 9) -implicitDefEqProofs -dsimp only [go_sem, seval, *]))
   ·have hv := ne3 (fun e => h2 (by rw [e]))
    clear ne1 ne2 ne3 ne4
    repeat' (first | simp (maxDischargeDepth := 9) -implicitDefEqProofs -dsimp only [go_sem, seval, *] | (with_reducible (first | apply Zn | apply Zo) <;> intro hq))
    all_goals first | (exfalso; omega) | (refine fin_eq ?_; (repeat' simp (maxDischargeDepth := 9) -implicitDefEqProofs -dsimp only [go_sem, seval, *]))
  ·have hv := ne2 (fun e => h1 (by rw [e]))
   clear ne1 ne2 ne3 ne4
   repeat' (first | simp (maxDischargeDepth := 9) -implicitDefEqProofs -dsimp only [go_sem, seval, *] | (with_reducible (first | apply Zn | apply Zo) <;> intro hq))
   all_goals first | (exfalso; omega) | (refine fin_eq ?_; (repeat' simp (maxDischargeDepth := 9) -implicitDefEqProofs -dsimp only [go_sem, seval, *]))
 ·have hv := ne1 hi
  clear ne1 ne2 ne3 ne4
  repeat' (first | simp (maxDischargeDepth := 9) -implicitDefEqProofs -dsimp only [go_sem, seval, *] | (with_reducible (first | apply Zn | apply Zo) <;> intro hq))
  all_goals first | (exfalso; omega) | (refine fin_eq ?_; (repeat' simp (maxDischargeDepth := 9) -implicitDefEqProofs -dsimp only [go_sem, seval, *]))
end Go.Proofs.Ytapnlmhfacoceaa.A

namespace Go.Proofs.Ytapnlmhfacoceaa.A
open Abs Fil
theorem ref_and (g : Aig) (p q : Int) (σ : Sig) (hf : Fine g) (hp : g.lit p = true) (hq : g.lit q = true) :
  ACalls Try.prog 73 [encAig g, .int .i64 p, .int .i64 q] σ (fun r σ' => r = .ret (.tup [encAig (Aig.endW (g.andW 0 p q)).1, .int .i64 (Aig.endW (g.andW 0 p q)).2.1, .int .i64 (Aig.endW (g.andW 0 p q)).2.2]) ∧ σ' = σ) := by
 refine calls_x mixed Try.func73 b73 n73 rfl q73 (by simp) ?_; unfold c73 r73
 have hs := hf.toSmall
 have hcn := hf.cnt
 have hlo := hf.lo
 have hhi := hf.hi
 have hfl := hs.flops
 have hal := hs.ands
 have hp' := litN_iff.1 hp
 have hq' := litN_iff.1 hq
 have hcd : g.ins + g.flops.length + g.ands.length ≤ 65536 := hcn
 have hc0 : 0 ≤ g.count := by unfold Aig.count; omega
 have hfb := idxF_bounds (fun x : Int × Int => decide (min x.1 x.2 = min p q) && decide (max x.1 x.2 = max p q)) g.ands
 have hfe : g.find (min p q) (max p q) = idxF (fun x : Int × Int => decide (min x.1 x.2 = min p q) && decide (max x.1 x.2 = max p q)) g.ands := rfl
 rw [← hfe] at hfb
 by_cases c1 : min p q = 0 ∨ min p q = turn (max p q)
 ·rw [andW1 c1]
  clear hfe hcd
  repeat' (first | simp (maxDischargeDepth := 9) -implicitDefEqProofs -dsimp only [go_sem, seval, *] | simp (disch := omega) only [wrap64, xor_is1] | (with_reducible (first | apply Zc | apply Ze | apply Zl | apply Zs) <;> intro hq) | ((with_reducible refine Zt (fun oF hoF hnF hnF' => ?_)); (try simp only [upd_none, ne_eq, not_and] at hoF)))
  all_goals first | (exfalso; omega) | (refine fin_eq ?_; (repeat' simp (maxDischargeDepth := 9) -implicitDefEqProofs -dsimp only [go_sem, seval, Aig.endW, *]); done)
 by_cases c2 : min p q = 1 ∨ min p q = max p q
 ·rw [andW2 c1 c2]
  clear hfe hcd
  repeat' (first | simp (maxDischargeDepth := 9) -implicitDefEqProofs -dsimp only [go_sem, seval, *] | simp (disch := omega) only [wrap64, xor_is1] | (with_reducible (first | apply Zc | apply Ze | apply Zl | apply Zs) <;> intro hq) | ((with_reducible refine Zt (fun oF hoF hnF hnF' => ?_)); (try simp only [upd_none, ne_eq, not_and] at hoF)))
  all_goals first | (exfalso; omega) | (refine fin_eq ?_; (repeat' simp (maxDischargeDepth := 9) -implicitDefEqProofs -dsimp only [go_sem, seval, Aig.endW, *]); done)
 by_cases c3 : 0 ≤ g.find (min p q) (max p q)
 ·rw [andW3 c1 c2 c3]
  clear hfe hcd
  repeat' (first | simp (maxDischargeDepth := 9) -implicitDefEqProofs -dsimp only [go_sem, seval, ge_iff_le, *] | simp (disch := omega) only [wrap64, xor_is1] | (with_reducible (first | apply Zc | apply Ze | apply Zl | apply Zs) <;> intro hq) | ((with_reducible refine Zt (fun oF hoF hnF hnF' => ?_)); (try simp only [upd_none, ne_eq, not_and] at hoF)) | ((with_reducible apply ACalls.one1); (focus ((with_reducible refine ref_gate g (min p q) (max p q) _ hal ?_) <;> (first | (simp (maxDischargeDepth := 9) -implicitDefEqProofs -dsimp only [go_sem, seval, *]; done) | omega))); (focus (first | trivial | with_reducible exact rfl | (simp (maxDischargeDepth := 9) -implicitDefEqProofs -dsimp only [go_sem, seval]; done)))))
  all_goals first | (exfalso; omega) | skip
  refine fin_eq ?_
  (repeat' simp (maxDischargeDepth := 9) -implicitDefEqProofs -dsimp only [go_sem, seval, Aig.endW, Aig.first, *])
 by_cases c4 : g.count = 65536
 ·rw [andW4 c1 c2 c3 c4]
  have c4' : g.ins + g.flops.length + g.ands.length = 65536 := c4
  clear hfe hcd
  repeat' (first | simp (maxDischargeDepth := 9) -implicitDefEqProofs -dsimp only [go_sem, seval, ge_iff_le, *] | simp (disch := omega) only [wrap64, xor_is1] | (with_reducible (first | apply Zc | apply Ze | apply Zl | apply Zs) <;> intro hq) | ((with_reducible refine Zt (fun oF hoF hnF hnF' => ?_)); (try simp only [upd_none, ne_eq, not_and] at hoF)) | ((with_reducible apply ACalls.one1); (focus ((with_reducible refine ref_gate g (min p q) (max p q) _ hal ?_) <;> (first | (simp (maxDischargeDepth := 9) -implicitDefEqProofs -dsimp only [go_sem, seval, *]; done) | omega))); (focus (first | trivial | with_reducible exact rfl | (simp (maxDischargeDepth := 9) -implicitDefEqProofs -dsimp only [go_sem, seval]; done)))))
  all_goals first | (exfalso; omega) | (refine fin_eq ?_; (repeat' simp (maxDischargeDepth := 9) -implicitDefEqProofs -dsimp only [go_sem, seval, Aig.endW, *]); done)
 ·rw [andW5 c1 c2 c3 c4]
  have c4' : g.ins + g.flops.length + g.ands.length < 65536 := by unfold Aig.count at c4; omega
  have hsm := (andO_some hf hp hq (g' := { g with ands := g.ands ++ [(min p q, max p q)] }) (x := 2 * (g.count + 1)) (by simp only [Aig.andO, c1, c2, c3, c4, if_false])).1.toSmall
  have hcp := count_push (g := g) (min p q, max p q)
  clear hfe hcd
  repeat' (first | simp (maxDischargeDepth := 9) -implicitDefEqProofs -dsimp only [go_sem, seval, ge_iff_le, *] | simp (disch := omega) only [wrap64, xor_is1] | (with_reducible (first | apply Zc | apply Ze | apply Zl | apply Zs) <;> intro hq) | ((with_reducible refine Zv ?_ ?_); focus (first | omega | exact rfl)) | ((with_reducible refine Zt (fun oF hoF hnF hnF' => ?_)); (try simp only [upd_none, ne_eq, not_and] at hoF)) | ((with_reducible apply ACalls.one1); (focus ((with_reducible refine ref_gate g (min p q) (max p q) _ hal ?_) <;> (first | (simp (maxDischargeDepth := 9) -implicitDefEqProofs -dsimp only [go_sem, seval, *]; done) | omega))); (focus (first | trivial | with_reducible exact rfl | (simp (maxDischargeDepth := 9) -implicitDefEqProofs -dsimp only [go_sem, seval]; done)))) | ((with_reducible apply id_one0); (focus (intro tS hS; ((with_reducible refine ACalls.flA (ref_Count { g with ands := g.ands ++ [(min p q, max p q)] } _ hsm) ?_) <;> (first | (simp (maxDischargeDepth := 9) -implicitDefEqProofs -dsimp only [go_sem, seval, *]; done) | omega | ((with_reducible refine Sub.get hS ?_); simp (maxDischargeDepth := 9) -implicitDefEqProofs -dsimp only [go_sem, seval, *]; done))))); (focus (first | trivial | (simp (maxDischargeDepth := 9) -implicitDefEqProofs -dsimp only [go_sem, seval, *]; done)))))
  all_goals first | (exfalso; omega) | skip
  all_goals
   refine fin_eq ?_
   (repeat' simp (maxDischargeDepth := 9) -implicitDefEqProofs -dsimp only [go_sem, seval, Aig.endW, *]) <;> (first | omega | skip)
theorem ref_And (g : Aig) (a b : Int) (σ : Sig) (hs : Wf g) :
  ACalls Try.prog 50 [encAig g, .int .i64 a, .int .i64 b] σ (fun r σ' => r = .ret (.tup [encAig (g.And a b).1, .int .i64 (g.And a b).2.1, .int .i64 (g.And a b).2.2]) ∧ σ' = σ) := by
 refine calls_x mixed Try.func50 b50 n50 rfl q50 (by simp) ?_; unfold c50 r50
 obtain ⟨e, he⟩ : ∃ e, g.checkL g.check [a, b] = e := ⟨_, rfl⟩
 have hd : g.And a b = Aig.endW (g.andW e a b) := by rw [← he]; rfl
 by_cases h0 : e = 0
 ·subst h0
  obtain ⟨hf, hl⟩ := checkL_fine hs he
  have ha := hl a (by simp)
  have hb := hl b (by simp)
  have ez : ((0 : Int) != 0) = false := by decide
  clear hl
  repeat' (first | simp (maxDischargeDepth := 9) -implicitDefEqProofs -dsimp only [go_sem, seval, *] | ((with_reducible refine Zt (fun oF hoF hnF hnF' => ?_)); (try simp only [upd_none, ne_eq, not_and] at hoF)) | ((with_reducible apply ACalls.one1); (focus ((first | with_reducible refine ref_and g a b _ hf ha hb | with_reducible refine ACalls.flA (ref_may g [a, b] _ hs ?_) ?_) <;> (first | (simp (maxDischargeDepth := 9) -implicitDefEqProofs -dsimp only [go_sem, seval, *]; done) | omega))); (focus (first | trivial | with_reducible exact rfl | (simp (maxDischargeDepth := 9) -implicitDefEqProofs -dsimp only [go_sem, seval]; done)))))
  refine fin_eq ?_
  (repeat' simp (maxDischargeDepth := 9) -implicitDefEqProofs -dsimp only [go_sem, seval, *])
 ·have hv : Aig.endW (g.andW e a b) = (⟨0, [], [], []⟩, 0, e) := by rw [andW_none h0]; exact endW_err h0
  have hb2 : (e != 0) = true := by simpa using h0
  repeat' (first | simp (maxDischargeDepth := 9) -implicitDefEqProofs -dsimp only [go_sem, seval, *] | ((with_reducible refine Zt (fun oF hoF hnF hnF' => ?_)); (try simp only [upd_none, ne_eq, not_and] at hoF)) | ((with_reducible apply ACalls.one1); (focus ((with_reducible refine ACalls.flA (ref_may g [a, b] _ hs ?_) ?_) <;> (first | (simp (maxDischargeDepth := 9) -implicitDefEqProofs -dsimp only [go_sem, seval, *]; done) | omega))); (focus (first | trivial | with_reducible exact rfl | (simp (maxDischargeDepth := 9) -implicitDefEqProofs -dsimp only [go_sem, seval]; done)))))
  refine fin_eq ?_
  (repeat' simp (maxDischargeDepth := 9) -implicitDefEqProofs -dsimp only [go_sem, seval, *])
end Go.Proofs.Ytapnlmhfacoceaa.A

