/- sized: contracts: what is the same. -/
import Derived.Test.YtdiebjnjhgbklaaQSizC2
set_option linter.unusedSimpArgs false
set_option linter.unusedVariables false
namespace Fil
open Abs
structure Flop where
 next : Int
 init : Bool
 deriving DecidableEq, Repr
structure Aig where
 ins : Int
 flops : List Flop
 ands : List (Int × Int)
 outs : List Int
 deriving DecidableEq, Repr
abbrev encFlop (f : Flop) : AV := .agg [.int .i64 f.next, .bool f.init]
abbrev encGate (g : Int × Int) : AV := .agg [.int .i64 g.1, .int .i64 g.2]
abbrev encInt (a : Int) : AV := .int .i64 a
abbrev encBool (a : Bool) : AV := .bool a
def I64 (a : Int) : Prop := -9223372036854775808 ≤ a ∧ a ≤ 9223372036854775807
structure Wf (g : Aig) : Prop where
 ins : I64 g.ins
 flops : g.flops.length ≤ 1000000
 ands : g.ands.length ≤ 1000000
 outs : g.outs.length ≤ 1000000
 nexts : ∀ f ∈ g.flops, I64 f.next
 gates : ∀ x ∈ g.ands, I64 x.1 ∧ I64 x.2
 lits : ∀ a ∈ g.outs, I64 a
structure Small (g : Aig) : Prop extends Wf g where
 lo : 0 ≤ g.ins
 hi : g.ins ≤ 1000000
namespace Aig
def count (g : Aig) : Int := g.ins + g.flops.length + g.ands.length
def first (g : Aig) : Int := 1 + g.ins + g.flops.length
def litN (n a : Int) : Bool := decide (0 ≤ a) && decide (a < 2 * n)
def lit (g : Aig) (a : Int) : Bool := litN (1 + g.count) a
def gatesOk : Int → List (Int × Int) → Bool
 | _, [] => true
 | n, x :: l => litN n x.1 && litN n x.2 && gatesOk (n + 1) l
def good (g : Aig) : Bool := gatesOk g.first g.ands && !(g.flops.any fun f => !g.lit f.next) && !(g.outs.any fun a => !g.lit a)
def check (g : Aig) : Int :=
 if g.ins < 0 then 1
 else if 65536 < g.ins ∨ 65536 < g.count ∨ 65536 < (g.outs.length : Int) then 2
 else if g.good then 0 else 1
def checkL (g : Aig) : Int → List Int → Int
 | e, [] => e
 | e, a :: l => g.checkL (if e = 0 ∧ g.lit a = false then 1 else e) l
def find (g : Aig) (a b : Int) : Int := idxF (fun x : Int × Int => decide (min x.1 x.2 = a) && decide (max x.1 x.2 = b)) g.ands
def andO (g : Aig) (p q : Int) : Option (Aig × Int) :=
 let a := min p q
 let b := max p q
 if a = 0 ∨ a = turn b then some (g, 0)
 else if a = 1 ∨ a = b then some (g, b)
 else if 0 ≤ g.find a b then some (g, 2 * (g.first + g.find a b))
 else if g.count = 65536 then none
 else some ({ g with ands := g.ands ++ [(a, b)] }, 2 * (g.count + 1))
def andW (g : Aig) (e p q : Int) : Aig × Int × Int :=
 if e ≠ 0 then (g, e, 0) else match g.andO p q with
  | none => (g, 2, 0)
  | some (g', x) => (g', 0, x)
def orW (g : Aig) (e p q : Int) : Aig × Int × Int :=
 let r := g.andW e (turn p) (turn q)
 (r.1, r.2.1, turn r.2.2)
def endW (r : Aig × Int × Int) : Aig × Int × Int := if r.2.1 ≠ 0 then (⟨0, [], [], []⟩, 0, r.2.1) else (r.1, r.2.2, 0)
end Aig
theorem litN_iff {n a : Int} : Aig.litN n a = true ↔ 0 ≤ a ∧ a < 2 * n := by simp [Aig.litN]
section
variable {g : Aig} {a b : Int}
end
theorem szs_gate (l : List (Int × Int)) : szs 2 (l.map encGate) = True := szs_map _ _ _ fun _ => rfl
theorem szs_flop (l : List Flop) : szs 2 (l.map encFlop) = True := szs_map _ _ _ fun _ => rfl
theorem szs_int (l : List Int) : szs 1 (l.map encInt) = True := szs_map _ _ _ fun _ => rfl
theorem szs_bool (l : List Bool) : szs 1 (l.map encBool) = True := szs_map _ _ _ fun _ => rfl
attribute [go_sem] szs_gate szs_flop szs_int szs_bool

/-! ### Making gates -/
structure Ext (g g' : Aig) : Prop where
 ins : g'.ins = g.ins
 flops : g'.flops = g.flops
 outs : g'.outs = g.outs
 ands : ∃ l, g'.ands = g.ands ++ l
theorem Ext.refl (g : Aig) : Ext g g := ⟨rfl, rfl, rfl, [], by simp⟩
theorem Ext.trans {g g' g'' : Aig} (h : Ext g g') (h' : Ext g' g'') : Ext g g'' := by
 obtain ⟨a1, a2, a3, l, a4⟩ := h
 obtain ⟨b1, b2, b3, m, b4⟩ := h'
 exact ⟨b1.trans a1, b2.trans a2, b3.trans a3, l ++ m, by rw [b4, a4, List.append_assoc]⟩
theorem Ext.count {g g' : Aig} (h : Ext g g') : g.count ≤ g'.count := by
 obtain ⟨a1, a2, a3, l, a4⟩ := h
 simp only [Aig.count, a1, a2, a4, List.length_append]; omega
theorem Ext.first {g g' : Aig} (h : Ext g g') : g'.first = g.first := by simp only [Aig.first, h.ins, h.flops]
theorem Ext.lit {g g' : Aig} (h : Ext g g') {a : Int} (ha : g.lit a = true) : g'.lit a = true := by
 have := h.count
 simp only [Aig.lit, litN_iff] at ha ⊢
 omega
namespace Aig
def And (g : Aig) (a b : Int) : Aig × Int × Int := endW (g.andW (g.checkL g.check [a, b]) a b)
def pairs (g : Aig) (e a b c d : Int) : Aig × Int × Int :=
 let r := g.andW e a b
 let s := r.1.andW r.2.1 c d
 s.1.orW s.2.1 r.2.2 s.2.2
def val (v : List Bool) (a : Int) : Bool := (v.getD (a / 2).toNat false) != decide (a % 2 = 1)
def vals : List Bool → List (Int × Int) → List Bool
 | v, [] => v
 | v, x :: l => vals (v ++ [val v x.1 && val v x.2]) l
def Nodes (g : Aig) (inp st : List Bool) : List Bool × Int :=
 if g.check ≠ 0 then ([], g.check) else if (inp.length : Int) ≠ g.ins ∨ st.length ≠ g.flops.length then ([], 1) else (vals (false :: (inp ++ st)) g.ands, 0)
end Aig
end Fil

namespace Fil.Sz
open Abs
theorem att {α β : Type} (l : List α) (f : α → β) : (l.attach.map fun x => f x.1) = l.map f := List.attach_map_val
inductive E where
 | mk (op w v sig hi lo n : Int) (l : List E)
namespace E
def op : E → Int | .mk a _ _ _ _ _ _ _ => a
def w : E → Int | .mk _ a _ _ _ _ _ _ => a
def v : E → Int | .mk _ _ a _ _ _ _ _ => a
def sig : E → Int | .mk _ _ _ a _ _ _ _ => a
def hi : E → Int | .mk _ _ _ _ a _ _ _ => a
def lo : E → Int | .mk _ _ _ _ _ a _ _ => a
def n : E → Int | .mk _ _ _ _ _ _ a _ => a
def l : E → List E | .mk _ _ _ _ _ _ _ a => a
section
variable (a b c d e f g : Int) (m : List E)
theorem mk_op : (E.mk a b c d e f g m).op = a := rfl
theorem mk_w : (E.mk a b c d e f g m).w = b := rfl
theorem mk_v : (E.mk a b c d e f g m).v = c := rfl
theorem mk_sig : (E.mk a b c d e f g m).sig = d := rfl
theorem mk_hi : (E.mk a b c d e f g m).hi = e := rfl
theorem mk_lo : (E.mk a b c d e f g m).lo = f := rfl
theorem mk_n : (E.mk a b c d e f g m).n = g := rfl
theorem mk_l : (E.mk a b c d e f g m).l = m := rfl
end
attribute [go_sem] mk_op mk_w mk_v mk_sig mk_hi mk_lo mk_n mk_l
theorem lt {e x : E} (h : x ∈ e.l) : sizeOf x < sizeOf e := by
 cases e; have := List.sizeOf_lt_of_mem h; simp only [E.l] at *; simp; omega
theorem ind {P : E → Prop} (h : ∀ e, (∀ x ∈ e.l, P x) → P e) (e : E) : P e := h e fun x hx => E.ind h x
termination_by e
decreasing_by exact E.lt hx
theorem ext {e x : E} (h1 : e.op = x.op) (h2 : e.w = x.w) (h3 : e.v = x.v) (h4 : e.sig = x.sig) (h5 : e.hi = x.hi) (h6 : e.lo = x.lo) (h7 : e.n = x.n) (h8 : e.l = x.l) : e = x := by
 cases e; cases x; simp only [op, w, v, sig, hi, lo, n, l] at *; subst_vars; rfl
theorem eq_iff {e x : E} : e = x ↔ e.op = x.op ∧ e.w = x.w ∧ e.v = x.v ∧ e.sig = x.sig ∧ e.hi = x.hi ∧ e.lo = x.lo ∧ e.n = x.n ∧ e.l = x.l :=
 ⟨fun h => by subst h; simp, fun ⟨h1, h2, h3, h4, h5, h6, h7, h8⟩ => ext h1 h2 h3 h4 h5 h6 h7 h8⟩
end E
def zE : E := .mk 0 0 0 0 0 0 0 []
def encEs (e : E) : List AV := e.l.attach.map fun x => .agg [.int .i64 x.1.op, .int .i64 x.1.w, .int .u64 x.1.v, .int .i64 x.1.sig, .int .i64 x.1.hi, .int .i64 x.1.lo, .int .i64 x.1.n, .slice (encEs x.1) .no]
termination_by e
decreasing_by exact E.lt x.2
abbrev eL (e : E) : List AV := [.int .i64 e.op, .int .i64 e.w, .int .u64 e.v, .int .i64 e.sig, .int .i64 e.hi, .int .i64 e.lo, .int .i64 e.n, .slice (encEs e) .no]
abbrev encE (e : E) : AV := .agg (eL e)
theorem encEs_eq (e : E) : encEs e = e.l.map encE := by rw [encEs]; exact att _ encE
theorem szs_e (l : List E) : szs 8 (l.map encE) = True := szs_map _ _ _ fun _ => rfl
attribute [go_sem] szs_e
inductive T where
 | mk (op sig hi lo : Int) (e : List E) (l : List T)
namespace T
def op : T → Int | .mk a _ _ _ _ _ => a
def sig : T → Int | .mk _ a _ _ _ _ => a
def hi : T → Int | .mk _ _ a _ _ _ => a
def lo : T → Int | .mk _ _ _ a _ _ => a
def e : T → List E | .mk _ _ _ _ a _ => a
def l : T → List T | .mk _ _ _ _ _ a => a
section
variable (a b c d : Int) (m : List E) (k : List T)
theorem mk_op : (T.mk a b c d m k).op = a := rfl
theorem mk_sig : (T.mk a b c d m k).sig = b := rfl
theorem mk_hi : (T.mk a b c d m k).hi = c := rfl
theorem mk_lo : (T.mk a b c d m k).lo = d := rfl
theorem mk_e : (T.mk a b c d m k).e = m := rfl
theorem mk_l : (T.mk a b c d m k).l = k := rfl
end
attribute [go_sem] mk_op mk_sig mk_hi mk_lo mk_e mk_l
theorem lt {t x : T} (h : x ∈ t.l) : sizeOf x < sizeOf t := by
 cases t; have := List.sizeOf_lt_of_mem h; simp only [T.l] at *; simp; omega
theorem ind {P : T → Prop} (h : ∀ t, (∀ x ∈ t.l, P x) → P t) (t : T) : P t := h t fun x hx => T.ind h x
termination_by t
decreasing_by exact T.lt hx
theorem eq_iff {t x : T} : t = x ↔ t.op = x.op ∧ t.sig = x.sig ∧ t.hi = x.hi ∧ t.lo = x.lo ∧ t.e = x.e ∧ t.l = x.l := by
 constructor
 ·rintro rfl; simp
 ·cases t; cases x; simp only [op, sig, hi, lo, e, l]; rintro ⟨rfl, rfl, rfl, rfl, rfl, rfl⟩; rfl
end T
def zT : T := .mk 0 0 0 0 [] []
def encTs (t : T) : List AV := t.l.attach.map fun x => .agg [.int .i64 x.1.op, .int .i64 x.1.sig, .int .i64 x.1.hi, .int .i64 x.1.lo, .slice (x.1.e.map encE) .no, .slice (encTs x.1) .no]
termination_by t
decreasing_by exact T.lt x.2
abbrev tL (t : T) : List AV := [.int .i64 t.op, .int .i64 t.sig, .int .i64 t.hi, .int .i64 t.lo, .slice (t.e.map encE) .no, .slice (encTs t) .no]
abbrev encT (t : T) : AV := .agg (tL t)
theorem encTs_eq (t : T) : encTs t = t.l.map encT := by rw [encTs]; exact att _ encT
theorem szs_t (l : List T) : szs 6 (l.map encT) = True := szs_map _ _ _ fun _ => rfl
structure Sg where
 name : ByteArray
 w : Int
 kind : Int
 init : Int
def zS : Sg := ⟨⟨#[]⟩, 0, 0, 0⟩
abbrev encS (s : Sg) : AV := .agg [.str s.name, .int .i64 s.w, .int .i64 s.kind, .int .u64 s.init]
theorem szs_s (l : List Sg) : szs 4 (l.map encS) = True := szs_map _ _ _ fun _ => rfl
structure Pr where
 clk : Bool
 l : List T
abbrev encP (p : Pr) : AV := .agg [.bool p.clk, .slice (p.l.map encT) .no]
theorem szs_p (l : List Pr) : szs 2 (l.map encP) = True := szs_map _ _ _ fun _ => rfl
structure Ck where
 name : ByteArray
 e : E
abbrev encC (c : Ck) : AV := .agg (.str c.name :: eL c.e)
theorem szs_c (l : List Ck) : szs 9 (l.map encC) = True := szs_map _ _ _ fun _ => rfl
structure Flat where
 sigs : List Sg
 procs : List Pr
 chks : List Ck
abbrev dL (d : Flat) : List AV := [.slice (d.sigs.map encS) .no, .slice (d.procs.map encP) .no, .slice (d.chks.map encC) .no]
abbrev encD (d : Flat) : AV := .agg (dL d)
attribute [go_sem] szs_t szs_s szs_p szs_c

/-! ### What they are -/
def U64 (a : Int) : Prop := 0 ≤ a ∧ a ≤ 18446744073709551615
def WfE (e : E) : Prop := (I64 e.op ∧ I64 e.w ∧ U64 e.v ∧ I64 e.sig ∧ I64 e.hi ∧ I64 e.lo ∧ I64 e.n) ∧ ∀ x, (h : x ∈ e.l) → WfE x
termination_by e
decreasing_by exact E.lt h
def WfT (t : T) : Prop := (I64 t.op ∧ I64 t.sig ∧ I64 t.hi ∧ I64 t.lo) ∧ (∀ x ∈ t.e, WfE x) ∧ ∀ x, (h : x ∈ t.l) → WfT x
termination_by t
decreasing_by exact T.lt h
theorem WfE_iff (e : E) : WfE e ↔ (I64 e.op ∧ I64 e.w ∧ U64 e.v ∧ I64 e.sig ∧ I64 e.hi ∧ I64 e.lo ∧ I64 e.n) ∧ ∀ x ∈ e.l, WfE x := by rw [WfE]
theorem WfT_iff (t : T) : WfT t ↔ (I64 t.op ∧ I64 t.sig ∧ I64 t.hi ∧ I64 t.lo) ∧ (∀ x ∈ t.e, WfE x) ∧ ∀ x ∈ t.l, WfT x := by rw [WfT]
def WfS (s : Sg) : Prop := I64 s.w ∧ I64 s.kind ∧ U64 s.init
def maxL (l : List Nat) : Nat := l.foldr max 0
def nodes (e : E) : Nat := 1 + (e.l.attach.map fun x => nodes x.1).sum
termination_by e
decreasing_by exact E.lt x.2
def deep (e : E) : Nat := 1 + maxL (e.l.attach.map fun x => deep x.1)
termination_by e
decreasing_by exact E.lt x.2
def nodesT (t : T) : Nat := 1 + (t.e.map nodes).sum + (t.l.attach.map fun x => nodesT x.1).sum
termination_by t
decreasing_by exact T.lt x.2
def deepT (t : T) : Nat := 1 + max (maxL (t.e.map deep)) (maxL (t.l.attach.map fun x => deepT x.1))
termination_by t
decreasing_by exact T.lt x.2
theorem nodes_eq (e : E) : nodes e = 1 + (e.l.map nodes).sum := by rw [nodes]; rw [att e.l nodes]
theorem deep_eq (e : E) : deep e = 1 + maxL (e.l.map deep) := by rw [deep]; rw [att e.l deep]
theorem nodesT_eq (t : T) : nodesT t = 1 + (t.e.map nodes).sum + (t.l.map nodesT).sum := by rw [nodesT]; rw [att t.l nodesT]
theorem deepT_eq (t : T) : deepT t = 1 + max (maxL (t.e.map deep)) (maxL (t.l.map deepT)) := by rw [deepT]; rw [att t.l deepT]

/-! ### Shapes -/
def holds (w v : Int) : Bool := decide (v < 2 ^ w.toNat)
def place (g : List Sg) (sig hi lo : Int) : Bool := decide (0 ≤ sig) && decide (sig < g.length) && decide (0 ≤ lo) && decide (lo ≤ hi) && decide (hi < (g.getD sig.toNat zS).w)
def node (g : List Sg) (e : E) : Bool :=
 if e.op = 1 then decide (e.sig = 0 ∧ e.hi = 0 ∧ e.lo = 0 ∧ e.n = 0 ∧ e.l.length = 0 ∧ 0 ≤ e.w ∧ e.w ≤ 64) && (decide (e.w = 0) || holds e.w e.v)
 else if e.op = 2 then decide (e.v = 0 ∧ e.n = 0 ∧ e.l.length = 0) && place g e.sig e.hi e.lo
 else if e.op = 3 then decide (e.v = 0 ∧ e.hi = 0 ∧ e.lo = 0 ∧ e.n = 0 ∧ e.l.length = 1 ∧ 0 ≤ e.sig ∧ e.sig < g.length)
 else if e.op = 4 then decide (e.v = 0 ∧ e.sig = 0 ∧ e.hi = 0 ∧ e.lo = 0 ∧ e.l.length = 1 ∧ 1 ≤ e.n ∧ e.n ≤ 6)
 else if e.op = 5 then decide (e.v = 0 ∧ e.sig = 0 ∧ e.hi = 0 ∧ e.lo = 0 ∧ e.l.length = 2 ∧ 11 ≤ e.n ∧ e.n ≤ 26)
 else if e.op = 6 then decide (e.v = 0 ∧ e.sig = 0 ∧ e.hi = 0 ∧ e.lo = 0 ∧ e.n = 0 ∧ e.l.length = 3)
 else if e.op = 7 then decide (e.v = 0 ∧ e.sig = 0 ∧ e.hi = 0 ∧ e.lo = 0 ∧ e.n = 0 ∧ 0 < e.l.length)
 else if e.op = 8 then decide (e.v = 0 ∧ e.sig = 0 ∧ e.hi = 0 ∧ e.lo = 0 ∧ e.l.length = 1 ∧ 31 ≤ e.n ∧ e.n ≤ 33 ∧ 1 ≤ e.w ∧ e.w ≤ 64)
 else false
def shp (g : List Sg) (e : E) : Bool := node g e && (e.l.attach.map fun x => shp g x.1).all id
termination_by e
decreasing_by exact E.lt x.2
theorem shp_eq (g : List Sg) (e : E) : shp g e = (node g e && e.l.all (shp g)) := by
 rw [shp]; congr 1; rw [att e.l (shp g), List.all_map]; rfl
def armsOk (l : List T) : Prop := 0 < l.length ∧ ∀ i, (h : i < l.length) → ((l[i].e.length = 0) ↔ i + 1 = l.length)
instance (l : List T) : Decidable (armsOk l) := by unfold armsOk; infer_instance
def okT (g : List Sg) (t : T) : Bool × Bool :=
  let r := t.l.attach.map fun x => okT g x.1
  (if t.op = 1 then t.e.all (shp g) && decide (t.e.length = 1 ∧ t.l.length = 0) && place g t.sig t.hi t.lo
   else decide (t.sig = 0 ∧ t.hi = 0 ∧ t.lo = 0) && t.e.all (shp g) &&
    (if t.op = 2 then decide (t.e.length = 1 ∧ t.l.length = 2) && t.l.all (fun x => decide (x.op = 5)) && r.all (·.1)
     else if t.op = 3 then decide (t.e.length = 1) && decide (armsOk t.l) && r.all (·.2)
     else if t.op = 5 then decide (t.e.length = 0) && r.all (·.1)
     else false),
   decide (t.op = 4 ∧ t.sig = 0 ∧ t.hi = 0 ∧ t.lo = 0) && t.e.all (fun e => decide (e.op = 1) && shp g e) && r.all (·.1))
termination_by t
decreasing_by exact T.lt x.2
def shpT (g : List Sg) (t : T) : Bool := (okT g t).1
def armT (g : List Sg) (t : T) : Bool := (okT g t).2
def armsT (g : List Sg) (l : List T) : Bool := decide (armsOk l) && l.all (armT g)
theorem shpT_eq (g : List Sg) (t : T) : shpT g t = (if t.op = 1 then t.e.all (shp g) && decide (t.e.length = 1 ∧ t.l.length = 0) && place g t.sig t.hi t.lo
   else decide (t.sig = 0 ∧ t.hi = 0 ∧ t.lo = 0) && t.e.all (shp g) &&
    (if t.op = 2 then decide (t.e.length = 1 ∧ t.l.length = 2) && t.l.all (fun x => decide (x.op = 5)) && t.l.all (shpT g)
     else if t.op = 3 then decide (t.e.length = 1) && armsT g t.l
     else if t.op = 5 then decide (t.e.length = 0) && t.l.all (shpT g)
     else false)) := by
  unfold shpT
  rw [okT, att t.l (okT g)]
  simp only [List.all_map, armsT, Bool.decide_and, Bool.and_assoc]
  rfl
theorem armT_eq (g : List Sg) (t : T) : armT g t = (decide (t.op = 4 ∧ t.sig = 0 ∧ t.hi = 0 ∧ t.lo = 0) && t.e.all (fun e => decide (e.op = 1) && shp g e) && t.l.all (shpT g)) := by
 unfold armT
 rw [okT, att t.l (okT g)]
 simp only [List.all_map]
 rfl

/-! ### Widths -/
def fst0 : List Int → Int
 | [] => 0
 | a :: l => if a = 0 then fst0 l else a
def cat0 (l : List Int) : Int := if 0 ∈ l then 0 else l.sum
def own (e : E) : Int :=
 let o := e.l.attach.map fun x => own x.1
 if e.op = 1 ∨ e.op = 8 then e.w
 else if e.op = 2 then e.hi - e.lo + 1
 else if e.op = 7 then cat0 o
 else if e.op = 6 then fst0 (o.drop 1)
 else if e.op = 4 ∧ e.n ≤ 2 then o.headD 0
 else if e.op = 5 ∧ e.n ≤ 16 then fst0 o
 else if e.op = 5 ∧ e.n ≤ 18 then o.headD 0
 else 1
termination_by e
decreasing_by exact E.lt x.2
theorem own_eq (e : E) : own e = (if e.op = 1 ∨ e.op = 8 then e.w
 else if e.op = 2 then e.hi - e.lo + 1
 else if e.op = 7 then cat0 (e.l.map own)
 else if e.op = 6 then fst0 ((e.l.map own).drop 1)
 else if e.op = 4 ∧ e.n ≤ 2 then (e.l.map own).headD 0
 else if e.op = 5 ∧ e.n ≤ 16 then fst0 (e.l.map own)
 else if e.op = 5 ∧ e.n ≤ 18 then (e.l.map own).headD 0
 else 1) := by rw [own]; rw [att e.l own]
def told (w other : Int) : Int := if w = 0 then other else w
def wants (e : E) (w : Int) : Option (List Int) :=
 let all (k : Int) := some (List.replicate e.l.length k)
 if e.op = 6 then some [-1, w, w]
 else if e.op = 7 then if own e = 0 ∨ own e ≠ w ∨ 64 < own e then none else all 0
 else if e.op = 4 ∨ e.op = 5 then
  if e.n = 6 ∨ e.n = 25 ∨ e.n = 26 then if w ≠ 1 then none else all (-1)
  else if e.n = 3 ∨ e.n = 4 ∨ e.n = 5 then if w ≠ 1 then none else all 0
  else if 19 ≤ e.n ∧ e.n ≤ 24 then if w ≠ 1 then none else all (told (fst0 (e.l.map own)) 32)
  else if e.n = 17 ∨ e.n = 18 then some [w, 0]
  else all w
 else if own e ≠ w then none else all 0
def runL : List (Int → E × Int) → List Int → List E × Int
 | f :: fs, w :: ws => if (f w).2 ≠ 0 then ([], (f w).2) else if (runL fs ws).2 ≠ 0 then ([], (runL fs ws).2) else ((f w).1 :: (runL fs ws).1, 0)
 | _, _ => ([], 0)
def E.set (e : E) (w : Int) (l : List E) : E := .mk e.op w e.v e.sig e.hi e.lo e.n l
def wide (e : E) (w : Int) : Int := told (if w = -1 then 1 else w) (told (own e) 32)
def part0 (l : List E) : Int := (l.headD zE).w
def size (e : E) : Int → E × Int :=
 let r := e.l.attach.map fun x => size x.1
 fun w =>
  if w = -1 ∧ 1 < own e then (zE, 91)
  else if e.op = 1 ∧ e.w = 0 then if holds (wide e w) e.v then (.mk 1 (wide e w) e.v 0 0 0 0 [], 0) else (zE, 92)
  else match wants e (wide e w) with
   | none => (zE, 90)
   | some ws =>
    if (runL r ws).2 ≠ 0 then (zE, (runL r ws).2)
    else if e.op = 8 ∧ (e.n = 33 ∧ part0 (runL r ws).1 < wide e w ∨ e.n ≠ 33 ∧ wide e w < part0 (runL r ws).1) then (zE, 90)
    else (e.set (wide e w) (runL r ws).1, 0)
termination_by e
decreasing_by exact E.lt x.2
def sizeK (e : E) (w : Int) (r : List E × Int) : E × Int :=
 if r.2 ≠ 0 then (zE, r.2)
 else if e.op = 8 ∧ (e.n = 33 ∧ part0 r.1 < wide e w ∨ e.n ≠ 33 ∧ wide e w < part0 r.1) then (zE, 90)
 else (e.set (wide e w) r.1, 0)
theorem size_eq (e : E) (w : Int) : size e w = (if w = -1 ∧ 1 < own e then (zE, 91)
  else if e.op = 1 ∧ e.w = 0 then if holds (wide e w) e.v then (.mk 1 (wide e w) e.v 0 0 0 0 [], 0) else (zE, 92)
  else match wants e (wide e w) with
   | none => (zE, 90)
   | some ws => sizeK e w (runL (e.l.map size) ws)) := by
 conv => lhs; rw [size]
 rw [att e.l size]
 rfl
end Fil.Sz

namespace Fil.Sz
open Abs
theorem fst0_zero {l : List Int} (h : ∀ a ∈ l, a = 0) : fst0 l = 0 := by
 induction l with
 | nil => rfl
 | cons a l ih =>
  have ha : a = 0 := h a (by simp)
  unfold fst0
  rw [if_pos ha]
  exact ih fun b hb => h b (by simp [hb])
theorem fst0_cases (l : List Int) : fst0 l = 0 ∨ fst0 l ∈ l := by
 induction l with
 | nil => exact .inl rfl
 | cons a l ih =>
  unfold fst0
  split
  ·rcases ih with h | h
   ·exact .inl h
   ·exact .inr (by simp [h])
  ·exact .inr (by simp)
theorem fst0_nonneg {l : List Int} (h : ∀ a ∈ l, 0 ≤ a) : 0 ≤ fst0 l := by
 rcases fst0_cases l with e | e
 ·omega
 ·exact h _ e
theorem sum_nonneg {l : List Int} (h : ∀ a ∈ l, 0 ≤ a) : 0 ≤ l.sum := by
 induction l with
 | nil => simp
 | cons a l ih =>
  have := h a (by simp)
  have := ih fun b hb => h b (by simp [hb])
  rw [List.sum_cons]; omega
theorem cat0_nonneg {l : List Int} (h : ∀ a ∈ l, 0 ≤ a) : 0 ≤ cat0 l := by
 unfold cat0; split
 ·omega
 ·exact sum_nonneg h
theorem sum_le {l : List E} {f : E → Int} (h : ∀ x ∈ l, f x ≤ 64 * nodes x) : (l.map f).sum ≤ 64 * ((l.map nodes).sum : Nat) := by
 induction l with
 | nil => simp
 | cons a l ih =>
  have := h a (by simp)
  have := ih fun b hb => h b (by simp [hb])
  simp only [List.map_cons, List.sum_cons]; omega
theorem mem_nodes {l : List E} {x : E} (h : x ∈ l) : nodes x ≤ (l.map nodes).sum := by
 induction l with
 | nil => cases h
 | cons a l ih =>
  simp only [List.map_cons, List.sum_cons]
  rcases List.mem_cons.1 h with rfl | h
  ·omega
  ·have := ih h; omega
theorem part_nodes {e x : E} (h : x ∈ e.l) : nodes x < nodes e := by
 rw [nodes_eq e]; have := mem_nodes h; omega
def SgOk (g : List Sg) : Prop := ∀ s ∈ g, 1 ≤ s.w ∧ s.w ≤ 64
theorem place_iff {g : List Sg} {sig hi lo : Int} : place g sig hi lo = true ↔ 0 ≤ sig ∧ sig < g.length ∧ 0 ≤ lo ∧ lo ≤ hi ∧ hi < (g.getD sig.toNat zS).w := by
 simp only [place, Bool.and_eq_true, decide_eq_true_eq, and_assoc]
theorem place_bits {g : List Sg} (hg : SgOk g) {sig hi lo : Int} (h : place g sig hi lo = true) : 0 ≤ lo ∧ lo ≤ hi ∧ hi ≤ 63 := by
 obtain ⟨h1, h2, h3, h4, h5⟩ := place_iff.1 h
 have hl : sig.toNat < g.length := by omega
 have := hg _ (List.getElem_mem hl)
 rw [List.getD_eq_getElem?_getD, List.getElem?_eq_getElem hl] at h5
 simp only [Option.getD_some] at h5
 omega
inductive Nd (g : List Sg) (e : E) : Prop
 | num (h : e.op = 1) (h1 : e.sig = 0) (h2 : e.hi = 0) (h3 : e.lo = 0) (h4 : e.n = 0) (h5 : e.l = []) (h6 : 0 ≤ e.w) (h7 : e.w ≤ 64) (h8 : e.w = 0 ∨ holds e.w e.v = true)
 | sig (h : e.op = 2) (h1 : e.v = 0) (h4 : e.n = 0) (h5 : e.l = []) (h6 : place g e.sig e.hi e.lo = true)
 | idx (h : e.op = 3) (h1 : e.v = 0) (h2 : e.hi = 0) (h3 : e.lo = 0) (h4 : e.n = 0) (a : E) (h5 : e.l = [a]) (h6 : 0 ≤ e.sig) (h7 : e.sig < g.length)
 | un (h : e.op = 4) (h0 : e.v = 0) (h1 : e.sig = 0) (h2 : e.hi = 0) (h3 : e.lo = 0) (a : E) (h5 : e.l = [a]) (h6 : 1 ≤ e.n) (h7 : e.n ≤ 6)
 | bin (h : e.op = 5) (h0 : e.v = 0) (h1 : e.sig = 0) (h2 : e.hi = 0) (h3 : e.lo = 0) (a b : E) (h5 : e.l = [a, b]) (h6 : 11 ≤ e.n) (h7 : e.n ≤ 26)
 | cond (h : e.op = 6) (h0 : e.v = 0) (h1 : e.sig = 0) (h2 : e.hi = 0) (h3 : e.lo = 0) (h4 : e.n = 0) (a b c : E) (h5 : e.l = [a, b, c])
 | cat (h : e.op = 7) (h0 : e.v = 0) (h1 : e.sig = 0) (h2 : e.hi = 0) (h3 : e.lo = 0) (h4 : e.n = 0) (h5 : 0 < e.l.length)
 | ext (h : e.op = 8) (h0 : e.v = 0) (h1 : e.sig = 0) (h2 : e.hi = 0) (h3 : e.lo = 0) (a : E) (h5 : e.l = [a]) (h6 : 31 ≤ e.n) (h7 : e.n ≤ 33) (h8 : 1 ≤ e.w) (h9 : e.w ≤ 64)
theorem len1 {α : Type} {l : List α} (h : l.length = 1) : ∃ a, l = [a] := by
 match l, h with
 | [a], _ => exact ⟨a, rfl⟩
theorem len2 {α : Type} {l : List α} (h : l.length = 2) : ∃ a b, l = [a, b] := by
 match l, h with
 | [a, b], _ => exact ⟨a, b, rfl⟩
theorem len3 {α : Type} {l : List α} (h : l.length = 3) : ∃ a b c, l = [a, b, c] := by
 match l, h with
 | [a, b, c], _ => exact ⟨a, b, c, rfl⟩
theorem node_nd {g : List Sg} {e : E} (h : node g e = true) : Nd g e := by
 unfold node at h
 split at h
 ·simp only [Bool.and_eq_true, Bool.or_eq_true, decide_eq_true_eq] at h
  obtain ⟨⟨h1, h2, h3, h4, h5, h6, h7⟩, h8⟩ := h
  exact .num (by assumption) h1 h2 h3 h4 (List.eq_nil_of_length_eq_zero h5) h6 h7 h8
 split at h
 ·simp only [Bool.and_eq_true, decide_eq_true_eq] at h
  obtain ⟨⟨h1, h2, h3⟩, h4⟩ := h
  exact .sig (by assumption) h1 h2 (List.eq_nil_of_length_eq_zero h3) h4
 split at h
 ·simp only [decide_eq_true_eq] at h
  obtain ⟨h1, h2, h3, h4, h5, h6, h7⟩ := h
  obtain ⟨a, ha⟩ := len1 h5
  exact .idx (by assumption) h1 h2 h3 h4 a ha h6 h7
 split at h
 ·simp only [decide_eq_true_eq] at h
  obtain ⟨h1, h2, h3, h4, h5, h6, h7⟩ := h
  obtain ⟨a, ha⟩ := len1 h5
  exact .un (by assumption) h1 h2 h3 h4 a ha h6 h7
 split at h
 ·simp only [decide_eq_true_eq] at h
  obtain ⟨h1, h2, h3, h4, h5, h6, h7⟩ := h
  obtain ⟨a, b, ha⟩ := len2 h5
  exact .bin (by assumption) h1 h2 h3 h4 a b ha h6 h7
 split at h
 ·simp only [decide_eq_true_eq] at h
  obtain ⟨h1, h2, h3, h4, h5, h6⟩ := h
  obtain ⟨a, b, c, ha⟩ := len3 h6
  exact .cond (by assumption) h1 h2 h3 h4 h5 a b c ha
 split at h
 ·simp only [decide_eq_true_eq] at h
  obtain ⟨h1, h2, h3, h4, h5, h6⟩ := h
  exact .cat (by assumption) h1 h2 h3 h4 h5 h6
 split at h
 ·simp only [decide_eq_true_eq] at h
  obtain ⟨h1, h2, h3, h4, h5, h6, h7, h8, h9⟩ := h
  obtain ⟨a, ha⟩ := len1 h5
  exact .ext (by assumption) h1 h2 h3 h4 a ha h6 h7 h8 h9
 ·simp at h
theorem shp_nd {g : List Sg} {e : E} (h : shp g e = true) : Nd g e := by
 rw [shp_eq, Bool.and_eq_true] at h; exact node_nd h.1
theorem shp_part {g : List Sg} {e x : E} (h : shp g e = true) (hx : x ∈ e.l) : shp g x = true := by
 rw [shp_eq, Bool.and_eq_true, List.all_eq_true] at h; exact h.2 x hx
theorem own1 {e : E} (h : e.op = 1) : own e = e.w := by rw [own_eq, if_pos (.inl h)]
theorem own8 {e : E} (h : e.op = 8) : own e = e.w := by rw [own_eq, if_pos (.inr h)]
theorem own2 {e : E} (h : e.op = 2) : own e = e.hi - e.lo + 1 := by rw [own_eq, if_neg (by omega), if_pos h]
theorem own7 {e : E} (h : e.op = 7) : own e = cat0 (e.l.map own) := by rw [own_eq, if_neg (by omega), if_neg (by omega), if_pos h]
theorem own6 {e : E} (h : e.op = 6) : own e = fst0 ((e.l.map own).drop 1) := by rw [own_eq, if_neg (by omega), if_neg (by omega), if_neg (by omega), if_pos h]
theorem own4 {e : E} (h : e.op = 4) : own e = if e.n ≤ 2 then (e.l.map own).headD 0 else 1 := by
 rw [own_eq, if_neg (by omega), if_neg (by omega), if_neg (by omega), if_neg (by omega)]
 by_cases h1 : e.n ≤ 2
 ·rw [if_pos ⟨h, h1⟩, if_pos h1]
 ·rw [if_neg (by omega), if_neg (by omega), if_neg (by omega), if_neg h1]
theorem own5 {e : E} (h : e.op = 5) : own e = if e.n ≤ 16 then fst0 (e.l.map own) else if e.n ≤ 18 then (e.l.map own).headD 0 else 1 := by
 rw [own_eq, if_neg (by omega), if_neg (by omega), if_neg (by omega), if_neg (by omega), if_neg (by omega)]
 by_cases h1 : e.n ≤ 16
 ·rw [if_pos ⟨h, h1⟩, if_pos h1]
 ·rw [if_neg (by omega), if_neg h1]
  by_cases h2 : e.n ≤ 18
  ·rw [if_pos ⟨h, h2⟩, if_pos h2]
  ·rw [if_neg (by omega), if_neg h2]
theorem own3 {e : E} (h : e.op = 3) : own e = 1 := by
 rw [own_eq, if_neg (by omega), if_neg (by omega), if_neg (by omega), if_neg (by omega), if_neg (by omega), if_neg (by omega), if_neg (by omega)]
theorem own_nonneg {g : List Sg} (hg : SgOk g) (e : E) : shp g e = true → 0 ≤ own e := by
 refine E.ind (P := fun e => shp g e = true → 0 ≤ own e) (fun e ih h => ?_) e
 have ih' : ∀ a ∈ e.l.map own, 0 ≤ a := fun a ha => by
  obtain ⟨x, hx, rfl⟩ := List.mem_map.1 ha
  exact ih x hx (shp_part h hx)
 have ihd : ∀ a ∈ (e.l.map own).drop 1, 0 ≤ a := fun a ha => ih' a (List.mem_of_mem_drop ha)
 have hhd : 0 ≤ (e.l.map own).headD 0 := by
  cases hl : e.l.map own with
  | nil => simp
  | cons a l => rw [hl] at ih'; exact ih' a (by simp)
 cases shp_nd h with
 | num h1 _ _ _ _ _ h6 _ _ => rw [own1 h1]; exact h6
 | sig h1 _ _ _ h6 =>
  have := place_bits hg h6
  rw [own2 h1]; omega
 | idx h1 => rw [own3 h1]; omega
 | un h1 => rw [own4 h1]; split <;> first | exact hhd | omega
 | bin h1 =>
  rw [own5 h1]
  split
  ·exact fst0_nonneg ih'
  ·split <;> first | exact hhd | omega
 | cond h1 => rw [own6 h1]; exact fst0_nonneg ihd
 | cat h1 => rw [own7 h1]; exact cat0_nonneg ih'
 | ext h1 => rw [own8 h1]; omega
theorem own_le {g : List Sg} (hg : SgOk g) (e : E) : shp g e = true → own e ≤ 64 * nodes e := by
 refine E.ind (P := fun e => shp g e = true → own e ≤ 64 * nodes e) (fun e ih h => ?_) e
 have hn := nodes_eq e
 have ih' : ∀ x ∈ e.l, own x ≤ 64 * nodes e := fun x hx => by
  have := ih x hx (shp_part h hx); have := part_nodes hx; omega
 have ihm : ∀ a ∈ e.l.map own, a ≤ 64 * nodes e := fun a ha => by
  obtain ⟨x, hx, rfl⟩ := List.mem_map.1 ha
  exact ih' x hx
 have hf : ∀ m : List Int, (∀ a ∈ m, a ∈ e.l.map own) → fst0 m ≤ 64 * nodes e := fun m hm => by
  rcases fst0_cases m with q | q
  ·omega
  ·exact ihm _ (hm _ q)
 have hhd : (e.l.map own).headD 0 ≤ 64 * nodes e := by
  cases hl : e.l.map own with
  | nil => simp only [List.headD_nil]; omega
  | cons a l => rw [hl] at ihm; exact ihm a (by simp)
 cases shp_nd h with
 | num h1 _ _ _ _ _ h6 h7 _ => rw [own1 h1]; omega
 | sig h1 _ _ _ h6 =>
  have := place_bits hg h6
  rw [own2 h1]; omega
 | idx h1 => rw [own3 h1]; omega
 | un h1 => rw [own4 h1]; split <;> first | exact hhd | omega
 | bin h1 =>
  rw [own5 h1]
  split
  ·exact hf _ fun a ha => ha
  ·split <;> first | exact hhd | omega
 | cond h1 => rw [own6 h1]; exact hf _ fun a ha => List.mem_of_mem_drop ha
 | cat h1 =>
  rw [own7 h1]
  unfold cat0
  split
  ·omega
  ·have := sum_le (l := e.l) (f := own) fun x hx => ih x hx (shp_part h hx)
   omega
 | ext h1 _ _ _ _ _ _ _ _ _ h9 => rw [own8 h1]; omega
end Fil.Sz

namespace Abs
open Go
def cEqualFunc (sz : Nat) (z : List AV) : ACode :=
 .seq (.reg [⟨some 6, .mov (.c (.bool false)), none⟩])
 (.seq (.seq (.reg [⟨some 10, .mov (.t 0), none⟩,
   ⟨some 11, .len (.t 10), none⟩,
   ⟨some 12, .mov (.t 1), none⟩,
   ⟨some 13, .len (.t 12), none⟩,
   ⟨some 14, .bin .neq false (.t 11) (.t 13), none⟩])
 (.cond (.t 14)
  (.seq (.reg [⟨some 6, .mov (.c (.bool false)), none⟩])
  (.ret))
  (.skip)))
 (.seq (.seq (.reg [⟨some 15, .mov (.t 0), none⟩,
   ⟨some 16, .len (.t 15), none⟩,
   ⟨some 17, .mov (.c (.int .i64 0)), none⟩])
 (.block 0 (.loop (.seq (.reg [⟨some 18, .bin .lss false (.t 17) (.t 16), none⟩])
  (.seq (.cond (.t 18)
   (.skip)
   (.exit 0))
  (.seq (.block 1 (.seq (.reg [⟨some 19, .mov (.t 17), none⟩,
    ⟨some 20, .idxS sz (.t 15) (.t 17), none⟩,
    ⟨some 21, .load true sz (.t 20), none⟩,
    ⟨some 8, .alloc z, none⟩,
    ⟨some 7, .mov (.t 19), none⟩,
    ⟨none, .store sz (.t 8) (.t 21), none⟩])
  (.seq (.reg [⟨some 22, .mov (.t 1), none⟩,
    ⟨some 23, .mov (.t 7), none⟩,
    ⟨some 24, .idxS sz (.t 22) (.t 23), none⟩,
    ⟨some 25, .load true sz (.t 24), none⟩,
    ⟨some 9, .alloc z, none⟩,
    ⟨none, .store sz (.t 9) (.t 25), none⟩])
  (.seq (.reg [⟨some 26, .mov (.t 2), none⟩,
    ⟨some 27, .load true sz (.t 8), none⟩,
    ⟨some 28, .load true sz (.t 9), none⟩,
    ⟨some 29, .call (.t 26) [(.t 27), (.t 28)], none⟩,
    ⟨some 30, .un .not (.t 29), none⟩])
  (.cond (.t 30)
   (.seq (.reg [⟨some 6, .mov (.c (.bool false)), none⟩])
   (.ret))
   (.skip))))))
  (.reg [⟨some 31, .bin .add false (.t 17) (.c (.int .i64 1)), none⟩,
    ⟨some 17, .mov (.t 31), none⟩])))))))
 (.seq (.reg [⟨some 6, .mov (.c (.bool true)), none⟩])
 (.ret))))
def eqF {α : Type} (p : α → α → Bool) (l m : List α) : Bool := decide (l.length = m.length) && (l.zip m).all fun q => p q.1 q.2
theorem eqF_len {α : Type} {p : α → α → Bool} {l m : List α} (h : ¬ l.length = m.length) : eqF p l m = false := by simp [eqF, h]
theorem eqF_false {α : Type} {p : α → α → Bool} {l m : List α} {i : Nat} (h1 : i < l.length) (h2 : i < m.length) (h : p l[i] m[i] = false) : eqF p l m = false := by
 have : ((l.zip m).all fun q => p q.1 q.2) = false := by
  rw [List.all_eq_false]
  refine ⟨(l[i], m[i]), ?_, by simp [h]⟩
  have hz : i < (l.zip m).length := by simp; omega
  have : (l.zip m)[i] = (l[i], m[i]) := by simp
  rw [← this]; exact List.getElem_mem hz
 simp [eqF, this]
theorem eqF_true {α : Type} {p : α → α → Bool} {l m : List α} (hl : l.length = m.length) (h : ∀ i, (h1 : i < l.length) → (h2 : i < m.length) → p l[i] m[i] = true) : eqF p l m = true := by
 simp only [eqF, hl, decide_true, Bool.true_and, List.all_eq_true]
 intro q hq
 obtain ⟨i, hi, rfl⟩ := List.getElem_of_mem hq
 simp only [List.length_zip] at hi
 have h1 : i < l.length := by omega
 have h2 : i < m.length := by omega
 simpa using h i h1 h2
section lib
variable {P : Program} {f : FuncId} {fn : Func} {σ : Sig} {α : Type} {enc : α → AV} {sz : Nat}
theorem lib_equalFunc {z : List AV} (hm : P.follows .mixedOrders = true) (hfn : P.funcs[f]? = some fn) (hb : fn.body.bind (tr P 32) = some (cEqualFunc sz z).bare) (hn : (fn.name == "runtime.NumGoroutine") = false) (hN : fn.ntmps = 32)
  (hr : trRes P fn.results.toList = some [.tmp 6]) (hagg : ∀ x, enc x = .agg (cellsA (enc x))) (hsz : ∀ x, (cellsA (enc x)).length = sz) (hz : z.length = sz) (hone : ∀ x, (cellsA (enc x)).all oneA = true) (p : α → α → Bool) (l m : List α) (hl : l.length ≤ 1000000000000) (hlm : m.length ≤ 1000000000000)
  {F : Nat} {first caps : List AV} (hF : ∀ x ∈ l, ∀ y ∈ m, ∀ τ, ACalls P F (first ++ [enc x, enc y] ++ caps) τ (fun r σ' => r = .ret (.bool (p x y)) ∧ σ' = τ)) :
  ACalls P f [.slice (l.map enc) .no, .slice (m.map enc) .no, .fn F first caps] σ (fun r σ' => r = .ret (.bool (eqF p l m)) ∧ σ' = σ) := by
 refine calls_x hm hfn hb hn hN hr (by simp) ?_
 unfold cEqualFunc
 have hmk : ∀ x, mkv true (cellsA (enc x)) = some (enc x) := fun x => by rw [mkv, if_pos rfl, ← hagg]
 have tk : ∀ x, List.take sz (cellsA (enc x)) = cellsA (enc x) := fun x => List.take_of_length_le (by rw [hsz]; exact Nat.le_refl _)
 have hd : List.drop (0 + sz) z = [] := List.drop_eq_nil_of_le (by omega)
 have hce : ∀ x, AV.agg (cellsA (enc x)) = enc x := fun x => (hagg x).symm
 have h00 : 0 + sz ≤ sz := by omega
 clear hagg
 by_cases hlen : m.length = l.length
 ·have hb : ((l.length : Int) != (m.length : Int)) = false := by simp [hlen]
  have hok0 := eqF_true (p := p) hlen.symm
  repeat' (first | simp (maxDischargeDepth := 9) -implicitDefEqProofs -dsimp only [go_sem, seval, List.length_map, *] | simp (disch := omega) only [wrap64, tdiv2, tmod2, and1, xor1, xor_is1, shr1, shr1'] | (with_reducible (first | apply Za | apply Zb | apply Zc | apply Zd | apply Ze | apply Zf | apply Zg | apply Zh | apply Zi | apply Zj | apply Zk | apply Zl | apply Zm | apply Zn | apply Zo | apply Zp | apply Zq | apply Zr | apply Zs) <;> intro hq) | ((with_reducible refine Zv ?_ ?_); focus (first | omega | exact rfl)) | ((with_reducible refine Zu ?_ ?_); focus omega) | ((with_reducible refine Zt (fun oF hoF hnF hnF' => ?_)); (try simp only [upd_none, ne_eq, not_and] at hoF)) | fail)
  refine loop_rule (fun i : Nat => [(17, some (.int .i64 i)), (16, some (.int .i64 l.length)), (15, some (.slice (l.map enc) .no)), (1, some (.slice (m.map enc) .no)), (2, some (.fn F first caps))]) (fun _ => σ)
   (fun i => i ≤ l.length ∧ ∀ j, (h1 : j < l.length) → (h2 : j < m.length) → j < i → p l[j] m[j] = true) (fun i => l.length - i) 0 ?_ ?_
  ·clear hok0 hF
   (repeat' (first | simp (maxDischargeDepth := 9) -implicitDefEqProofs -dsimp only [go_sem, seval, *] | simp (disch := omega) only [wrap64, tdiv2, tmod2, and1, xor1, xor_is1, shr1, shr1'])) <;> (repeat' refine And.intro ?_ ?_) <;> (first | omega | rfl | assumption | skip)
  ·rintro i ⟨hi, hok⟩
   by_cases hlt : i < l.length
   ·have hlt2 : i < m.length := by omega
    have hc := fun τ => hF l[i] (List.getElem_mem hlt) m[i] (List.getElem_mem hlt2) τ
    have hf := eqF_false (p := p) hlt hlt2
    have hstep : p l[i] m[i] = true → ∀ j, (h1 : j < l.length) → (h2 : j < m.length) → j < i + 1 → p l[j] m[j] = true := fun hp j h1 h2 h => by
     rcases Nat.lt_or_ge j i with h' | h'
     ·exact hok j h1 h2 h'
     ·obtain rfl : j = i := by omega
      exact hp
    clear hF hok hok0 hlen
    repeat' (first | simp (maxDischargeDepth := 9) -implicitDefEqProofs -dsimp only [go_sem, seval, *] | simp (disch := omega) only [wrap64, tdiv2, tmod2, and1, xor1, xor_is1, shr1, shr1'] | (with_reducible (first | apply Za | apply Zb | apply Zc | apply Zd | apply Ze | apply Zf | apply Zg | apply Zh | apply Zi | apply Zj | apply Zk | apply Zl | apply Zm | apply Zn | apply Zo | apply Zp | apply Zq | apply Zr | apply Zs) <;> intro hq) | ((with_reducible refine Zv ?_ ?_); focus (first | omega | exact rfl)) | ((with_reducible refine Zu ?_ ?_); focus omega) | ((with_reducible refine Zt (fun oF hoF hnF hnF' => ?_)); (try simp only [upd_none, ne_eq, not_and] at hoF)) | ((with_reducible apply ACalls.one1); (focus ((first | with_reducible refine hc _ | with_reducible refine ACalls.flA (hc _) ?_) <;> (first | (simp (maxDischargeDepth := 9) -implicitDefEqProofs -dsimp only [go_sem, seval, *]; done) | omega))); (focus (first | trivial | with_reducible exact rfl | (simp (maxDischargeDepth := 9) -implicitDefEqProofs -dsimp only [go_sem, seval]; done)))) | fail)
    ·have hs := hstep hq
     refine loop_next _ _ _ _ (i + 1) ?_; (repeat' (first | simp (maxDischargeDepth := 9) -implicitDefEqProofs -dsimp only [go_sem, seval, *] | simp (disch := omega) only [wrap64, tdiv2, tmod2, and1, xor1, xor_is1, shr1, shr1'])) <;> (repeat' refine And.intro ?_ ?_) <;> (first | omega | rfl | assumption | skip)
    ·have he := hf hq
     refine fin_eq ?_
     (repeat' (first | simp (maxDischargeDepth := 9) -implicitDefEqProofs -dsimp only [go_sem, seval, *] | simp (disch := omega) only [wrap64, tdiv2, tmod2, and1, xor1, xor_is1, shr1, shr1'])) <;> (repeat' refine And.intro ?_ ?_) <;> (first | omega | rfl | assumption | skip)
   ·have he := hok0 fun j h1 h2 => hok j h1 h2 (by omega)
    repeat' (first | simp (maxDischargeDepth := 9) -implicitDefEqProofs -dsimp only [go_sem, seval, *] | simp (disch := omega) only [wrap64, tdiv2, tmod2, and1, xor1, xor_is1, shr1, shr1'] | (with_reducible (first | apply Za | apply Zb | apply Zc | apply Zd | apply Ze | apply Zf | apply Zg | apply Zh | apply Zi | apply Zj | apply Zk | apply Zl | apply Zm | apply Zn | apply Zo | apply Zp | apply Zq | apply Zr | apply Zs) <;> intro hq) | ((with_reducible refine Zv ?_ ?_); focus (first | omega | exact rfl)) | ((with_reducible refine Zu ?_ ?_); focus omega) | ((with_reducible refine Zt (fun oF hoF hnF hnF' => ?_)); (try simp only [upd_none, ne_eq, not_and] at hoF)) | fail)
    refine fin_eq ?_
    (repeat' (first | simp (maxDischargeDepth := 9) -implicitDefEqProofs -dsimp only [go_sem, seval, *] | simp (disch := omega) only [wrap64, tdiv2, tmod2, and1, xor1, xor_is1, shr1, shr1'])) <;> (repeat' refine And.intro ?_ ?_) <;> (first | omega | rfl | assumption | skip)
 ·have hb : ((l.length : Int) != (m.length : Int)) = true := by simp only [bne_iff_ne, ne_eq]; omega
  have he := eqF_len (p := p) (fun h => hlen h.symm)
  repeat' (first | simp (maxDischargeDepth := 9) -implicitDefEqProofs -dsimp only [go_sem, seval, List.length_map, *] | simp (disch := omega) only [wrap64, tdiv2, tmod2, and1, xor1, xor_is1, shr1, shr1'] | (with_reducible (first | apply Za | apply Zb | apply Zc | apply Zd | apply Ze | apply Zf | apply Zg | apply Zh | apply Zi | apply Zj | apply Zk | apply Zl | apply Zm | apply Zn | apply Zo | apply Zp | apply Zq | apply Zr | apply Zs) <;> intro hq) | ((with_reducible refine Zv ?_ ?_); focus (first | omega | exact rfl)) | ((with_reducible refine Zu ?_ ?_); focus omega) | ((with_reducible refine Zt (fun oF hoF hnF hnF' => ?_)); (try simp only [upd_none, ne_eq, not_and] at hoF)) | fail)
  refine fin_eq ?_
  (repeat' (first | simp (maxDischargeDepth := 9) -implicitDefEqProofs -dsimp only [go_sem, seval, *] | simp (disch := omega) only [wrap64, tdiv2, tmod2, and1, xor1, xor_is1, shr1, shr1'])) <;> (repeat' refine And.intro ?_ ?_) <;> (first | omega | rfl | assumption | skip)
end lib
end Abs

namespace Fil.Sz
open Abs
open Classical in
noncomputable def same {α : Type} (a b : α) : Bool := decide (a = b)
theorem same_iff {α : Type} {a b : α} : same a b = true ↔ a = b := by simp [same]
theorem same_self {α : Type} (a : α) : same a a = true := by simp [same]
theorem same_false {α : Type} {a b : α} : same a b = false ↔ ¬ a = b := by simp [same]

/-! ### Bytes -/
theorem bytes_loop (b : ByteArray) : ∀ (k i : Nat) (r : List UInt8), b.size - i = k → i ≤ b.size → ByteArray.toList.loop b i r = r.reverse ++ b.data.toList.drop i
 | 0, i, r, hk, hi => by
  have : i = b.size := by omega
  subst this
  rw [ByteArray.toList.loop, if_neg (Nat.lt_irrefl _)]
  have : b.data.toList.drop b.size = [] := List.drop_eq_nil_of_le (by rw [Array.length_toList]; exact Nat.le_refl _)
  rw [this, List.append_nil]
 | k + 1, i, r, hk, hi => by
  have hlt : i < b.size := by omega
  rw [ByteArray.toList.loop, if_pos hlt, bytes_loop b k (i + 1) _ (by omega) (by omega)]
  have hl : i < b.data.toList.length := by rw [Array.length_toList]; exact hlt
  rw [List.drop_eq_getElem_cons hl, List.reverse_cons, List.append_assoc]
  congr 1
  rw [List.singleton_append]
  congr 1
  have h3 : i < b.data.size := hlt
  show b.data[i]! = b.data.toList[i]
  rw [getElem!_pos b.data i h3, Array.getElem_toList]
theorem bytes_list (b : ByteArray) : b.toList = b.data.toList := by
 unfold ByteArray.toList
 rw [bytes_loop b b.size 0 [] (by omega) (by omega)]; rfl
theorem bytes_eq {a b : ByteArray} : a.toList = b.toList ↔ a = b := by
 constructor
 ·intro h
  rw [bytes_list, bytes_list] at h
  cases a; cases b
  simp only [ByteArray.mk.injEq]
  exact Array.toList_inj.1 h
 ·rintro rfl; rfl

/-! ### Signals -/
def noName : ByteArray := ⟨#[]⟩
def SgGood (s : Sg) : Prop := ¬ s.name = noName ∧ 1 ≤ s.w ∧ s.w ≤ 64 ∧ 1 ≤ s.kind ∧ s.kind ≤ 4 ∧ (s.kind = 4 ∨ s.init = 0)
def SgTo (l : List Sg) (i : Nat) : Prop := ∀ j, (h : j < l.length) → j < i → SgGood l[j] ∧ ∀ k, (hk : k < j) → ¬ (l[k]'(by omega)).name = l[j].name
open Classical in
noncomputable def sigsOk (l : List Sg) : Bool := decide (SgTo l l.length)
theorem sigsOk_iff {l : List Sg} : sigsOk l = true ↔ SgTo l l.length := by simp [sigsOk]
theorem sigsOk_ok {l : List Sg} (h : sigsOk l = true) : SgOk l := fun s hs => by
 obtain ⟨i, hi, rfl⟩ := List.getElem_of_mem hs
 have := (sigsOk_iff.1 h i hi hi).1
 exact ⟨this.2.1, this.2.2.1⟩
theorem sigs_bad {l : List Sg} {i : Nat} (hi : i < l.length) (h : ¬ (SgGood l[i] ∧ ∀ k, (hk : k < i) → ¬ (l[k]'(by omega)).name = l[i].name)) : sigsOk l = false := by
 cases hs : sigsOk l with
 | false => rfl
 | true => exact (h (sigsOk_iff.1 hs i hi hi)).elim
theorem sgTo_succ {l : List Sg} {i : Nat} (hi : i < l.length) (h : SgTo l i) (h2 : SgGood l[i] ∧ ∀ k, (hk : k < i) → ¬ (l[k]'(by omega)).name = l[i].name) : SgTo l (i + 1) := fun j hj hji => by
 rcases Nat.lt_or_ge j i with q | q
 ·exact h j hj q
 ·obtain rfl : j = i := by omega
  exact h2

/-! ### Statements -/
def exprS (x : E) (w : Int) (e0 : Int) : E × Int := if e0 ≠ 0 then (zE, e0) else size x w
def thrL {β : Type} : List (Int → β × Int) → Int → List β × Int
 | [], e => ([], e)
 | f :: fs, e => ((f e).1 :: (thrL fs (f e).2).1, (thrL fs (f e).2).2)
theorem thrL_len {β : Type} : ∀ (l : List (Int → β × Int)) (e : Int), (thrL l e).1.length = l.length
 | [], _ => rfl
 | f :: fs, e => by simp only [thrL, List.length_cons, thrL_len fs]
theorem thrL_snoc {β : Type} (f : Int → β × Int) : ∀ (l : List (Int → β × Int)) (e : Int), thrL (l ++ [f]) e = ((thrL l e).1 ++ [(f (thrL l e).2).1], (f (thrL l e).2).2)
 | [], e => rfl
 | g :: l, e => by simp only [List.cons_append, thrL, thrL_snoc f l]
theorem thrL_app {β : Type} : ∀ (l m : List (Int → β × Int)) (e : Int), thrL (l ++ m) e = ((thrL l e).1 ++ (thrL m (thrL l e).2).1, (thrL m (thrL l e).2).2)
 | [], m, e => rfl
 | g :: l, m, e => by simp only [List.cons_append, thrL, thrL_app l m]
def kindOf (g : List Sg) (t : T) : Int := (g.getD t.sig.toNat zS).kind
def roleE (g : List Sg) (clk : Bool) (t : T) (e0 : Int) : Int := if t.op = 1 ∧ e0 = 0 ∧ (kindOf g t = 1 ∨ clk ≠ decide (kindOf g t = 4)) then 85 else e0
def wantT (t : T) (labels : Int) : Int := if t.op = 1 then t.hi - t.lo + 1 else if t.op = 2 then -1 else if t.op = 3 then 0 else labels
def esT (g : List Sg) (clk : Bool) (t : T) (labels e0 : Int) : List E × Int := thrL (t.e.map fun x => exprS x (wantT t labels)) (roleE g clk t e0)
def labT (t : T) (labels : Int) (es : List E) : Int := if t.op = 3 then part0 es else labels
def stT (g : List Sg) (clk : Bool) (t : T) : Int → Int → T × Int :=
 let r := t.l.attach.map fun x => stT g clk x.1
 fun labels e0 =>
  let es := esT g clk t labels e0
  let ls := thrL (r.map fun f => f (labT t labels es.1)) es.2
  (.mk t.op t.sig t.hi t.lo es.1 ls.1, ls.2)
termination_by t
decreasing_by exact T.lt x.2
def lsT (g : List Sg) (clk : Bool) (l : List T) (lab e0 : Int) : List T × Int := thrL (l.map fun x => stT g clk x lab) e0
theorem stT_eq (g : List Sg) (clk : Bool) (t : T) (labels e0 : Int) : stT g clk t labels e0 =
  (.mk t.op t.sig t.hi t.lo (esT g clk t labels e0).1 (lsT g clk t.l (labT t labels (esT g clk t labels e0).1) (esT g clk t labels e0).2).1,
   (lsT g clk t.l (labT t labels (esT g clk t labels e0).1) (esT g clk t labels e0).2).2) := by
 rw [stT, att t.l (stT g clk)]
 simp only [List.map_map, lsT]
 rfl

/-! ### Designs -/
def bitN (c : Int) (s : Sg) : Nat := (min s.w c).toNat
def bitsD (c : Int) (l : List Sg) : Nat := (l.map (bitN c)).sum
def nodesP (p : Pr) : Nat := (p.l.map nodesT).sum
def deepP (p : Pr) : Nat := maxL (p.l.map deepT)
def nodesD (d : Flat) : Nat := (d.procs.map nodesP).sum + (d.chks.map fun c => nodes c.e).sum
def deepD (d : Flat) : Nat := max (maxL (d.procs.map deepP)) (maxL (d.chks.map fun c => deep c.e))
def fitsD (d : Flat) : Bool := decide (d.sigs.length ≤ 512 ∧ d.procs.length ≤ 1024 ∧ bitsD 4097 d.sigs ≤ 4096 ∧ nodesD d ≤ 65536 ∧ deepD d ≤ 64)
noncomputable def shapedD (d : Flat) : Bool := sigsOk d.sigs && d.procs.all (fun p => p.l.all (shpT d.sigs)) && d.chks.all (fun c => shp d.sigs c.e)
def fillsD (d : Flat) : Bool := d.sigs.all fun s => holds s.w s.init
def prS (g : List Sg) (p : Pr) (e0 : Int) : Pr × Int := (⟨p.clk, (lsT g p.clk p.l 0 e0).1⟩, (lsT g p.clk p.l 0 e0).2)
def ckS (c : Ck) (e0 : Int) : Ck × Int := (⟨c.name, (exprS c.e (-1) e0).1⟩, (exprS c.e (-1) e0).2)
def prsD (d : Flat) : List Pr × Int := thrL (d.procs.map (prS d.sigs)) 0
def cksD (d : Flat) : List Ck × Int := thrL (d.chks.map ckS) (prsD d).2
def zD : Flat := ⟨[], [], []⟩
noncomputable def sizeD (d : Flat) : Flat × Int :=
 if fitsD d = false then (zD, 2) else if shapedD d = false then (zD, 1) else if fillsD d = false then (zD, 92)
 else if (cksD d).2 ≠ 0 then (zD, (cksD d).2) else (⟨d.sigs, (prsD d).1, (cksD d).1⟩, 0)
noncomputable def exprD (d : Flat) (e : E) (want : Int) : E × Int :=
 if sigsOk d.sigs = false ∨ want < 0 ∨ 64 < want ∨ shp d.sigs e = false then (zE, 1) else if 65536 < nodes e ∨ 64 < deep e then (zE, 2) else size e want
open Classical in
noncomputable def checkE (d : Flat) (e : E) : Int := if (exprD d e e.w).2 = 0 ∧ (e.w = 0 ∨ ¬ (exprD d e e.w).1 = e) then 90 else (exprD d e e.w).2
open Classical in
noncomputable def checkD (d : Flat) : Int := if (sizeD d).2 = 0 ∧ ¬ (sizeD d).1 = d then 90 else (sizeD d).2
structure WfD (d : Flat) : Prop where
 sigs : ∀ s ∈ d.sigs, WfS s
 procs : ∀ p ∈ d.procs, ∀ t ∈ p.l, WfT t
 chks : ∀ c ∈ d.chks, WfE c.e
theorem eqF_same {α : Type} : ∀ (l m : List α), eqF same l m = same l m
 | [], [] => by simp [eqF, same]
 | [], b :: m => by simp [eqF, same]
 | a :: l, [] => by simp [eqF, same]
 | a :: l, b :: m => by
  have ih := eqF_same l m
  simp only [eqF, same, List.length_cons, List.zip_cons_cons, List.all_cons] at ih ⊢
  rw [Bool.eq_iff_iff] at ih ⊢
  simp only [Bool.and_eq_true, decide_eq_true_eq, List.cons.injEq, Nat.add_right_cancel_iff] at ih ⊢
  rw [← ih]
  exact ⟨fun ⟨h1, h2, h3⟩ => ⟨h2, h1, h3⟩, fun ⟨h1, h2, h3⟩ => ⟨h2, h1, h3⟩⟩
theorem same_E (a b : E) : same a b = (decide (a.op = b.op) && decide (a.w = b.w) && decide (a.v = b.v) && decide (a.sig = b.sig) && decide (a.hi = b.hi) && decide (a.lo = b.lo) && decide (a.n = b.n) && same a.l b.l) := by
 rw [Bool.eq_iff_iff]
 simp only [Bool.and_eq_true, decide_eq_true_eq, same_iff, E.eq_iff, and_assoc]
theorem same_T (a b : T) : same a b = (decide (a.op = b.op) && decide (a.sig = b.sig) && decide (a.hi = b.hi) && decide (a.lo = b.lo) && same a.e b.e && same a.l b.l) := by
 rw [Bool.eq_iff_iff]
 simp only [Bool.and_eq_true, decide_eq_true_eq, same_iff, T.eq_iff, and_assoc]
theorem same_P (a b : Pr) : same a b = (decide (a.clk = b.clk) && same a.l b.l) := by
 rw [Bool.eq_iff_iff]
 simp only [Bool.and_eq_true, decide_eq_true_eq, same_iff]
 cases a; cases b; simp
theorem same_C (a b : Ck) : same a b = (decide (a.name = b.name) && same a.e b.e) := by
 rw [Bool.eq_iff_iff]
 simp only [Bool.and_eq_true, decide_eq_true_eq, same_iff]
 cases a; cases b; simp
theorem same_S (a b : Sg) : same a b = (decide (a.name = b.name) && decide (a.w = b.w) && decide (a.kind = b.kind) && decide (a.init = b.init)) := by
 rw [Bool.eq_iff_iff]
 simp only [Bool.and_eq_true, decide_eq_true_eq, same_iff]
 cases a; cases b; simp [and_assoc]
theorem same_D (a b : Flat) : same a b = (same a.sigs b.sigs && same a.procs b.procs && same a.chks b.chks) := by
 rw [Bool.eq_iff_iff]
 simp only [Bool.and_eq_true, same_iff]
 cases a; cases b; simp [and_assoc]

/-! ### Bounds of lists -/
theorem len_sum {α : Type} {f : α → Nat} (h : ∀ x, 1 ≤ f x) : ∀ l : List α, l.length ≤ (l.map f).sum
 | [] => Nat.le_refl _
 | a :: l => by have := h a; have := len_sum h l; simp only [List.map_cons, List.sum_cons, List.length_cons]; omega
theorem mem_sum {α : Type} {f : α → Nat} {l : List α} {x : α} (h : x ∈ l) : f x ≤ (l.map f).sum := by
 induction l with
 | nil => cases h
 | cons a l ih =>
  simp only [List.map_cons, List.sum_cons]
  rcases List.mem_cons.1 h with rfl | h
  ·omega
  ·have := ih h; omega
theorem nodes_pos (e : E) : 1 ≤ nodes e := by rw [nodes_eq]; omega
theorem nodesT_pos (t : T) : 1 ≤ nodesT t := by rw [nodesT_eq]; omega
theorem len_nodes (e : E) : e.l.length ≤ nodes e := by have := len_sum nodes_pos e.l; rw [nodes_eq]; omega
theorem lenE_nodes (t : T) : t.e.length ≤ nodesT t := by have := len_sum nodes_pos t.e; rw [nodesT_eq]; omega
theorem lenL_nodes (t : T) : t.l.length ≤ nodesT t := by have := len_sum nodesT_pos t.l; rw [nodesT_eq]; omega
theorem partE_nodes {t : T} {x : E} (h : x ∈ t.e) : nodes x < nodesT t := by rw [nodesT_eq]; have := mem_sum (f := nodes) h; omega
theorem partT_nodes {t x : T} (h : x ∈ t.l) : nodesT x < nodesT t := by rw [nodesT_eq t]; have := mem_sum (f := nodesT) h; omega
end Fil.Sz

namespace Go.Proofs.Ytdiebjnjhgbklaa
open Abs Fil Fil.Sz
theorem sl_eqE (l m : List E) (hl : l.length ≤ 1000000000000) (hm : m.length ≤ 1000000000000) (σ : Sig) {F : Nat} (hF : ∀ x ∈ l, ∀ y ∈ m, ∀ τ, ACalls Try.prog F [encE x, encE y] τ (fun r σ' => r = .ret (.bool (same x y)) ∧ σ' = τ)) :
  ACalls Try.prog 64 [.slice (l.map encE) .no, .slice (m.map encE) .no, .fn F [] []] σ (fun r σ' => r = .ret (.bool (same l m)) ∧ σ' = σ) := by
 rw [← eqF_same]
 exact lib_equalFunc (sz := 8) mixed Try.func64 b64 n64 rfl q64 (fun _ => rfl) (fun _ => rfl) rfl (fun _ => rfl) same l m hl hm (first := []) (caps := []) hF
theorem sl_eqT (l m : List T) (hl : l.length ≤ 1000000000000) (hm : m.length ≤ 1000000000000) (σ : Sig) {F : Nat} (hF : ∀ x ∈ l, ∀ y ∈ m, ∀ τ, ACalls Try.prog F [encT x, encT y] τ (fun r σ' => r = .ret (.bool (same x y)) ∧ σ' = τ)) :
  ACalls Try.prog 58 [.slice (l.map encT) .no, .slice (m.map encT) .no, .fn F [] []] σ (fun r σ' => r = .ret (.bool (same l m)) ∧ σ' = σ) := by
 rw [← eqF_same]
 exact lib_equalFunc (sz := 6) mixed Try.func58 b58 n58 rfl q58 (fun _ => rfl) (fun _ => rfl) rfl (fun _ => rfl) same l m hl hm (first := []) (caps := []) hF
theorem sl_eqP (l m : List Pr) (hl : l.length ≤ 1000000000000) (hm : m.length ≤ 1000000000000) (σ : Sig) {F : Nat} (hF : ∀ x ∈ l, ∀ y ∈ m, ∀ τ, ACalls Try.prog F [encP x, encP y] τ (fun r σ' => r = .ret (.bool (same x y)) ∧ σ' = τ)) :
  ACalls Try.prog 62 [.slice (l.map encP) .no, .slice (m.map encP) .no, .fn F [] []] σ (fun r σ' => r = .ret (.bool (same l m)) ∧ σ' = σ) := by
 rw [← eqF_same]
 exact lib_equalFunc (sz := 2) mixed Try.func62 b62 n62 rfl q62 (fun _ => rfl) (fun _ => rfl) rfl (fun _ => rfl) same l m hl hm (first := []) (caps := []) hF
theorem sl_eqC (l m : List Ck) (hl : l.length ≤ 1000000000000) (hm : m.length ≤ 1000000000000) (σ : Sig) {F : Nat} (hF : ∀ x ∈ l, ∀ y ∈ m, ∀ τ, ACalls Try.prog F [encC x, encC y] τ (fun r σ' => r = .ret (.bool (same x y)) ∧ σ' = τ)) :
  ACalls Try.prog 63 [.slice (l.map encC) .no, .slice (m.map encC) .no, .fn F [] []] σ (fun r σ' => r = .ret (.bool (same l m)) ∧ σ' = σ) := by
 rw [← eqF_same]
 exact lib_equalFunc (sz := 9) mixed Try.func63 b63 n63 rfl q63 (fun _ => rfl) (fun _ => rfl) rfl (fun _ => rfl) same l m hl hm (first := []) (caps := []) hF
def Flds (a b : E) : Prop := b.op = a.op ∧ b.w = a.w ∧ b.v = a.v ∧ b.sig = a.sig ∧ b.hi = a.hi ∧ b.lo = a.lo ∧ b.n = a.n
theorem flds_yes {a b : E} (h : Flds a b) : same a b = same a.l b.l := by
 obtain ⟨h1, h2, h3, h4, h5, h6, h7⟩ := h
 rw [same_E]; simp [h1, h2, h3, h4, h5, h6, h7]
theorem flds_no {a b : E} (h : ¬ Flds a b) : same a b = false := by
 rw [same_false]
 rintro rfl
 exact h ⟨rfl, rfl, rfl, rfl, rfl, rfl, rfl⟩
theorem sz_SameE (a : E) : ∀ (b : E) (σ : Sig), nodes a ≤ 16777216 → nodes b ≤ 16777216 → ACalls Try.prog 27 [encE a, encE b] σ (fun r σ' => r = .ret (.bool (same a b)) ∧ σ' = σ) := by
 refine E.ind (P := fun a => ∀ (b : E) (σ : Sig), nodes a ≤ 16777216 → nodes b ≤ 16777216 → ACalls Try.prog 27 [encE a, encE b] σ (fun r σ' => r = .ret (.bool (same a b)) ∧ σ' = σ)) (fun a ih b σ ha hb => ?_) a
 have h1 := encEs_eq a
 have h2 := encEs_eq b
 have l1 := len_nodes a
 have l2 := len_nodes b
 have hE := fun τ => sl_eqE a.l b.l (by omega) (by omega) τ (F := 27) (fun x hx y hy τ => ih x hx y τ (by have := part_nodes hx; omega) (by have := part_nodes hy; omega))
 clear ih
 refine calls_x mixed Try.func27 b27 n27 rfl q27 (by simp) ?_; unfold c27 r27
 by_cases h : Flds a b
 ·have hs := flds_yes h
  obtain ⟨e1, e2, e3, e4, e5, e6, e7⟩ := h
  repeat' (first | simp (maxDischargeDepth := 9) -implicitDefEqProofs -dsimp only [go_sem, seval, beq_self_eq_true, *] | ((with_reducible apply ACalls.one1); (focus ((with_reducible refine hE _) <;> (first | (simp (maxDischargeDepth := 9) -implicitDefEqProofs -dsimp only [go_sem, seval, *]; done) | omega))); (focus (first | trivial | with_reducible exact rfl | (simp (maxDischargeDepth := 9) -implicitDefEqProofs -dsimp only [go_sem, seval]; done)))))
  refine fin_eq ?_
  (repeat' simp (maxDischargeDepth := 9) -implicitDefEqProofs -dsimp only [go_sem, seval, *])
 ·have hs := flds_no h
  unfold Flds at h
  repeat' (first | simp (maxDischargeDepth := 9) -implicitDefEqProofs -dsimp only [go_sem, seval, *] | (with_reducible (first | apply Zj) <;> intro hq) | ((with_reducible apply ACalls.one1); (focus ((with_reducible refine hE _) <;> (first | (simp (maxDischargeDepth := 9) -implicitDefEqProofs -dsimp only [go_sem, seval, *]; done) | omega))); (focus (first | trivial | with_reducible exact rfl | (simp (maxDischargeDepth := 9) -implicitDefEqProofs -dsimp only [go_sem, seval]; done)))))
  all_goals first | (exfalso; apply h; omega) | skip
  all_goals
   refine fin_eq ?_
   (repeat' simp (maxDischargeDepth := 9) -implicitDefEqProofs -dsimp only [go_sem, seval, *])
set_option maxRecDepth 20000 in
theorem rf_SameE (a : E) : ∀ (b : E) (σ : Sig), nodes a ≤ 16777216 → nodes b ≤ 16777216 → ACalls Try.prog 18 [encE a, encE b] σ (fun r σ' => r = .ret (.bool (same a b)) ∧ σ' = σ) := by
 refine E.ind (P := fun a => ∀ (b : E) (σ : Sig), nodes a ≤ 16777216 → nodes b ≤ 16777216 → ACalls Try.prog 18 [encE a, encE b] σ (fun r σ' => r = .ret (.bool (same a b)) ∧ σ' = σ)) (fun a ih b σ ha hb => ?_) a
 have h1 := encEs_eq a
 have h2 := encEs_eq b
 have l1 := len_nodes a
 have l2 := len_nodes b
 have hE := fun (x : E) (hx : x ∈ a.l) (y : E) (hy : y ∈ b.l) τ => ih x hx y τ (by have := part_nodes hx; omega) (by have := part_nodes hy; omega)
 clear ih
 refine calls_x mixed Try.func18 b18 n18 rfl q18 (by simp) ?_; unfold c18 r18
 by_cases h : Flds a b ∧ b.l.length = a.l.length
 ·obtain ⟨h, hlen⟩ := h
  have hs := flds_yes h
  rw [← eqF_same] at hs
  have hlb : ((a.l.length : Int) != (b.l.length : Int)) = false := by simp [hlen]
  have hyes := eqF_true (p := same) hlen.symm
  obtain ⟨e1, e2, e3, e4, e5, e6, e7⟩ := h
  repeat' simp (maxDischargeDepth := 9) -implicitDefEqProofs -dsimp only [go_sem, seval, bne_self_eq_false, *]
  refine loop_rule (fun i : Nat => [(5, some (.int .i64 i)), (2, some (.cptr (eL a))), (3, some (.cptr (eL b)))]) (fun _ => σ)
   (fun i => i ≤ a.l.length ∧ ∀ j, (h1 : j < a.l.length) → (h2 : j < b.l.length) → j < i → same a.l[j] b.l[j] = true) (fun i => a.l.length - i) 0 ?_ ?_
  ·clear hyes hE
   (repeat' simp (maxDischargeDepth := 9) -implicitDefEqProofs -dsimp only [go_sem, seval, *]) <;> (repeat' refine And.intro ?_ ?_) <;> (first | omega | skip)
  ·rintro i ⟨hi, hok⟩
   by_cases hlt : i < a.l.length
   ·have hlt2 : i < b.l.length := by omega
    have hc := fun τ => hE a.l[i] (List.getElem_mem hlt) b.l[i] (List.getElem_mem hlt2) τ
    have hf := eqF_false (p := same) hlt hlt2
    have hstep : same a.l[i] b.l[i] = true → ∀ j, (h1 : j < a.l.length) → (h2 : j < b.l.length) → j < i + 1 → same a.l[j] b.l[j] = true := fun hp j h1 h2 h => by
     rcases Nat.lt_or_ge j i with h' | h'
     ·exact hok j h1 h2 h'
     ·obtain rfl : j = i := by omega
      exact hp
    clear hE hok hyes
    repeat' (first | simp (maxDischargeDepth := 9) -implicitDefEqProofs -dsimp only [go_sem, seval, *] | simp (disch := omega) only [wrap64] | (with_reducible (first | apply Zn | apply Zo | apply Zr) <;> intro hq) | ((with_reducible refine Zu ?_ ?_); focus omega) | ((with_reducible apply id_one0); (focus (intro tS hS; ((with_reducible refine hc _) <;> (first | (simp (maxDischargeDepth := 9) -implicitDefEqProofs -dsimp only [go_sem, seval, *]; done) | omega | ((with_reducible refine Sub.get hS ?_); simp (maxDischargeDepth := 9) -implicitDefEqProofs -dsimp only [go_sem, seval, *]; done))))); (focus (first | trivial | (simp (maxDischargeDepth := 9) -implicitDefEqProofs -dsimp only [go_sem, seval, *]; done)))))
    ·have hn := hstep hq
     refine loop_next _ _ _ _ (i + 1) ?_; (repeat' simp (maxDischargeDepth := 9) -implicitDefEqProofs -dsimp only [go_sem, seval, *]) <;> (repeat' refine And.intro ?_ ?_) <;> (first | omega | skip)
     exact fun j h1 h2 h => hn j h1 (by omega) h
    ·have he := hf hq
     refine fin_eq ?_
     (repeat' simp (maxDischargeDepth := 9) -implicitDefEqProofs -dsimp only [go_sem, seval, *])
   ·have he := hyes fun j h1 h2 => hok j h1 h2 (by omega)
    repeat' simp (maxDischargeDepth := 9) -implicitDefEqProofs -dsimp only [go_sem, seval, *]
    refine fin_eq ?_
    (repeat' simp (maxDischargeDepth := 9) -implicitDefEqProofs -dsimp only [go_sem, seval, *])
 ·have hs : same a b = false := by
   by_cases hf : Flds a b
   ·rw [flds_yes hf, ← eqF_same]
    exact eqF_len fun hl => h ⟨hf, hl.symm⟩
   ·exact flds_no hf
  unfold Flds at h
  repeat' (first | simp (maxDischargeDepth := 9) -implicitDefEqProofs -dsimp only [go_sem, seval, *] | simp (disch := omega) only [wrap64] | (with_reducible (first | apply Zn | apply Zo | apply Zr) <;> intro hq))
  all_goals first | (refine fin_eq ?_; (repeat' simp (maxDischargeDepth := 9) -implicitDefEqProofs -dsimp only [go_sem, seval, *]); done) | skip
  all_goals
   exfalso; apply h; simp only [bne_eq_false_iff_eq] at *; omega
end Go.Proofs.Ytdiebjnjhgbklaa

