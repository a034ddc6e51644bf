/- The abstraction layer, part X: a row that may be written, seen as_ the list that it holds; rows of several cells, element by element. Over any program. -/
import Derived.Test.YtapnlmhfacoceaaQRewAigW
set_option linter.unusedSimpArgs false
set_option linter.unusedVariables false
namespace Go.Proofs.Ytapnlmhfacoceaa.A
open Abs Fil
theorem ref_New (ins : Int) (init : List Bool) (σ : Sig) (hi : I64 ins) (hl : init.length ≤ 1000000) :
  ACalls Try.prog 57 [.int .i64 ins, .slice (init.map encBool) .no] σ (fun r σ' => r = .ret (.tup [encAig (Aig.New ins init).1, .int .i64 (Aig.New ins init).2]) ∧ σ' = σ) := by
 refine ACalls.virt (callable_of Try.func57 b57 n57) 2 (fun oV1 hoV1 hnV1 hnV1' => ?_); (try simp only [upd_none, ne_eq, not_and] at hoV1); refine calls_x mixed Try.func57 b57 n57 rfl q57 (by simp) ?_; unfold c57 r57
 obtain ⟨hi1, hi2⟩ := hi
 by_cases h0 : ins < 0
 ·have hv : Aig.New ins init = (⟨0, [], [], []⟩, 1) := by simp [Aig.New, *]
  repeat' (first | simp (maxDischargeDepth := 9) -implicitDefEqProofs -dsimp only [go_sem, seval, *] | ((with_reducible refine Zt (fun oF hoF hnF hnF' => ?_)); (try simp only [upd_none, ne_eq, not_and] at hoF)))
  refine fin_eq ?_
  (repeat' simp (maxDischargeDepth := 9) -implicitDefEqProofs -dsimp only [go_sem, seval, *])
 by_cases h1 : 65536 < ins + (init.length : Int)
 ·have hv : Aig.New ins init = (⟨0, [], [], []⟩, 2) := by simp only [Aig.New, h0, if_false]; rw [if_pos (by omega)]
  repeat' (first | simp (maxDischargeDepth := 9) -implicitDefEqProofs -dsimp only [go_sem, seval, gt_iff_lt, *] | simp (disch := omega) only [wrap64] | (with_reducible (first | apply Zb) <;> intro hq) | ((with_reducible refine Zt (fun oF hoF hnF hnF' => ?_)); (try simp only [upd_none, ne_eq, not_and] at hoF)))
  all_goals first | (exfalso; omega) | (refine fin_eq ?_; (repeat' simp (maxDischargeDepth := 9) -implicitDefEqProofs -dsimp only [go_sem, seval, *]))
 have hv : Aig.New ins init = (⟨ins, init.map fun b => ⟨0, b⟩, [], []⟩, 0) := by simp only [Aig.New, h0, if_false]; rw [if_neg (by omega)]
 have h2 : ¬ 65536 < ins := by omega
 repeat' (first | simp (maxDischargeDepth := 9) -implicitDefEqProofs -dsimp only [go_sem, seval, gt_iff_lt, *] | simp (disch := omega) only [wrap64] | ((with_reducible refine Zt (fun oF hoF hnF hnF' => ?_)); (try simp only [upd_none, ne_eq, not_and] at hoF)))
 rename_i o4 ho4 hn4 hn4'
 refine loop_rule (fun i : Nat => [(4, some (.ptr o4 0)), (6, some (.ptr oF 0)), (1, some (.slice (init.map encBool) .no)), (7, some (.int .i64 i))])
  (fun i => upd (upd (upd σ oV1 (.grow 2 i)) o4 (.cells [.int .i64 0, .slice [] .nil, .slice [] .nil, .slice [] .nil])) oF (.cells [.int .i64 ins, .slice ((init.take i).map fun b => encFlop ⟨0, b⟩) (.own oV1), .slice [] .nil, .slice [] .nil])) (fun i => i ≤ init.length) (fun i => init.length - i) 0 ?_ ?_
 ·(repeat' simp (maxDischargeDepth := 9) -implicitDefEqProofs -dsimp only [go_sem, seval, *]) <;> (first | omega | skip)
 ·intro i hi'
  by_cases hlt : i < init.length
  ·have hs := take_succ hlt
   have hlen : (init.take i).length = i := by simp; omega
   have hz : ∀ l : List Bool, szs 2 (l.map fun b => encFlop ⟨0, b⟩) = True := fun l => szs_map _ _ _ fun _ => rfl
   repeat' (first | simp (maxDischargeDepth := 9) -implicitDefEqProofs -dsimp only [go_sem, seval, hz, *] | simp (disch := omega) only [wrap64] | ((with_reducible refine Zv ?_ ?_); focus (first | omega | exact rfl)) | ((with_reducible refine Zu ?_ ?_); focus omega))
   refine loop_next _ _ _ _ (i + 1) ?_; (repeat' simp (maxDischargeDepth := 9) -implicitDefEqProofs -dsimp only [go_sem, seval, *]) <;> (repeat' refine And.intro ?_ ?_) <;> (first | omega | skip)
  ·repeat' simp (maxDischargeDepth := 9) -implicitDefEqProofs -dsimp only [go_sem, seval, *]
   refine fin_eq ?_
   have e0 : init.take i = init := List.take_of_length_le (by omega)
   have e1 : (init.map fun b => (⟨0, b⟩ : Flop)).map encFlop = init.map fun b => encFlop ⟨0, b⟩ := by rw [List.map_map]; rfl
   (repeat' simp (maxDischargeDepth := 9) -implicitDefEqProofs -dsimp only [go_sem, seval, e0, e1, *])
theorem ref_Init (g : Aig) (σ : Sig) (hl : g.flops.length ≤ 1000000) :
  ACalls Try.prog 34 [encAig g] σ (fun r σ' => r = .ret (.slice ((g.flops.map (·.init)).map encBool) .no) ∧ σ' = σ) := by
 refine ACalls.virt (callable_of Try.func34 b34 n34) 1 (fun oV1 hoV1 hnV1 hnV1' => ?_); (try simp only [upd_none, ne_eq, not_and] at hoV1); refine calls_x mixed Try.func34 b34 n34 rfl q34 (by simp) ?_; unfold c34 r34
 repeat' simp (maxDischargeDepth := 9) -implicitDefEqProofs -dsimp only [go_sem, seval, *]
 refine loop_rule (fun i : Nat => [(4, some (.int .i64 i)), (1, some (.cptr (aigL g))), (3, some (.slice (((g.flops.take i).map (·.init)).map encBool) (.own oV1)))])
  (fun i => upd σ oV1 (.grow 1 i)) (fun i => i ≤ g.flops.length) (fun i => g.flops.length - i) 0 ?_ ?_
 ·(repeat' simp (maxDischargeDepth := 9) -implicitDefEqProofs -dsimp only [go_sem, seval, *]) <;> (first | omega | skip)
 ·intro i hi'
  by_cases hlt : i < g.flops.length
  ·have hs := take_succ hlt
   have hlen : (g.flops.take i).length = i := by simp; omega
   repeat' (first | simp (maxDischargeDepth := 9) -implicitDefEqProofs -dsimp only [go_sem, seval, *] | simp (disch := omega) only [wrap64] | ((with_reducible refine Zv ?_ ?_); focus (first | omega | exact rfl)) | ((with_reducible refine Zu ?_ ?_); focus omega))
   refine loop_next _ _ _ _ (i + 1) ?_; (repeat' simp (maxDischargeDepth := 9) -implicitDefEqProofs -dsimp only [go_sem, seval, *]) <;> (repeat' refine And.intro ?_ ?_) <;> (first | omega | skip)
  ·repeat' simp (maxDischargeDepth := 9) -implicitDefEqProofs -dsimp only [go_sem, seval, *]
   refine fin_eq ?_
   have e0 : g.flops.take i = g.flops := List.take_of_length_le (by omega)
   (repeat' simp (maxDischargeDepth := 9) -implicitDefEqProofs -dsimp only [go_sem, seval, e0, *])
theorem ref_Levels (g : Aig) (σ : Sig) (hs : Wf g) :
  ACalls Try.prog 76 [encAig g] σ (fun r σ' => r = .ret (.tup [.slice (g.Levels.1.map encInt) .no, .int .i64 g.Levels.2]) ∧ σ' = σ) := by
 refine calls_x mixed Try.func76 b76 n76 rfl q76 (by simp) ?_; unfold c76 r76
 by_cases h0 : g.check = 0
 ·have hf := check_fine hs h0
  have hsm := hf.toSmall
  have hc := hf.cnt
  have hlo := hf.lo
  have hgk := gatesOk_iff.1 hf.gok
  have hb : g.first = 1 + g.ins + g.flops.length ∧ g.first + g.ands.length = 1 + g.count := by unfold Aig.first Aig.count; omega
  have hv : g.Levels = (Aig.levs (List.replicate (1 + g.ins + g.flops.length).toNat 0) g.ands, 0) := by simp [Aig.Levels, h0, Aig.first]
  have hb' : 1 ≤ g.first ∧ (g.first ≤ 1 + g.ins + g.flops.length ∧ 1 + g.ins + g.flops.length ≤ g.first) ∧ g.first + g.ands.length ≤ 1 + g.count := by omega
  clear hb
  have ez : ((0 : Int) != 0) = false := by decide
  have hfl := hs.flops
  have hal := hs.ands
  have hhi := hsm.hi
  repeat' (first | simp (maxDischargeDepth := 9) -implicitDefEqProofs -dsimp only [go_sem, seval, *] | simp (disch := omega) only [wrap64, tdiv2] | ((with_reducible refine Zv ?_ ?_); focus (first | omega | exact rfl)) | ((with_reducible refine Zt (fun oF hoF hnF hnF' => ?_)); (try simp only [upd_none, ne_eq, not_and] at hoF)) | ((with_reducible apply ACalls.one1); (focus ((with_reducible refine ref_Check g _ hs) <;> (first | (simp (maxDischargeDepth := 9) -implicitDefEqProofs -dsimp only [go_sem, seval, *]; done) | omega))); (focus (first | trivial | with_reducible exact rfl | (simp (maxDischargeDepth := 9) -implicitDefEqProofs -dsimp only [go_sem, seval]; done)))))
  have l0 : (List.replicate (1 + g.ins + g.flops.length).toNat (0 : Int)).length = (1 + g.ins + g.flops.length).toNat := List.length_replicate
  have hr0 : List.replicate (1 + g.ins + g.flops.length).toNat (AV.int .i64 0) = (List.replicate (1 + g.ins + g.flops.length).toNat (0 : Int)).map encInt := by rw [List.map_replicate]
  have hbd : ∀ i, i ≤ g.ands.length → ∀ x ∈ Aig.levs (List.replicate (1 + g.ins + g.flops.length).toNat 0) (g.ands.take i), 0 ≤ x ∧ x ≤ (i : Int) := fun i hi x hx => by
   have := levs_bound (g.ands.take i) (List.replicate (1 + g.ins + g.flops.length).toNat 0) 0 (fun y hy => by simp at hy; omega) (by omega) x hx
   rw [List.length_take] at this
   omega
  refine loop_rule (fun i : Nat => [(6, some (.int .i64 i)), (1, some (.cptr (aigL g))), (5, some (.slice ((Aig.levs (List.replicate (1 + g.ins + g.flops.length).toNat 0) (g.ands.take i)).map encInt) (.own oF)))])
   (fun i => upd σ oF (.grow 1 (Aig.levs (List.replicate (1 + g.ins + g.flops.length).toNat 0) (g.ands.take i)).length)) (fun i => i ≤ g.ands.length) (fun i => g.ands.length - i) 0 ?_ ?_
  ·(repeat' simp (maxDischargeDepth := 9) -implicitDefEqProofs -dsimp only [go_sem, seval, Aig.levs, l0, *]) <;> (first | omega | skip)
  ·intro i hi
   by_cases hlt : i < g.ands.length
   ·have hg := hgk i hlt
    have st' := levs_step (v := List.replicate (1 + g.ins + g.flops.length).toNat 0) hlt
    have ln := levs_len (v := List.replicate (1 + g.ins + g.flops.length).toNat 0) (l := g.ands) (i := i) (by omega)
    have hbi := hbd i (by omega)
    rw [l0] at ln
    clear hbd hgk
    obtain ⟨v, hv'⟩ : ∃ v, Aig.levs (List.replicate (1 + g.ins + g.flops.length).toNat 0) (g.ands.take i) = v := ⟨_, rfl⟩
    rw [hv'] at ln st' hbi
    have i1 : (g.ands[i].1 / 2).toNat < v.length := by omega
    have i2 : (g.ands[i].2 / 2).toNat < v.length := by omega
    have b1 := hbi _ (List.getElem_mem i1)
    have b2 := hbi _ (List.getElem_mem i2)
    have d1 : v.getD (g.ands[i].1 / 2).toNat 0 = v[(g.ands[i].1 / 2).toNat] := by simp [List.getD, i1]
    have d2 : v.getD (g.ands[i].2 / 2).toNat 0 = v[(g.ands[i].2 / 2).toNat] := by simp [List.getD, i2]
    rw [d1, d2] at st'
    clear hbi d1 d2
    repeat' (first | simp (maxDischargeDepth := 9) -implicitDefEqProofs -dsimp only [go_sem, seval, *] | simp (disch := omega) only [wrap64, tdiv2] | ((with_reducible refine Zv ?_ ?_); focus (first | omega | exact rfl)) | ((with_reducible refine Zu ?_ ?_); focus omega))
    refine loop_next _ _ _ _ (i + 1) ?_; (repeat' simp (maxDischargeDepth := 9) -implicitDefEqProofs -dsimp only [go_sem, seval, *]) <;> (repeat' refine And.intro ?_ ?_) <;> (first | omega | skip)
   ·repeat' simp (maxDischargeDepth := 9) -implicitDefEqProofs -dsimp only [go_sem, seval, *]
    refine fin_eq ?_
    have e0 : g.ands.take i = g.ands := List.take_of_length_le (by omega)
    (repeat' simp (maxDischargeDepth := 9) -implicitDefEqProofs -dsimp only [go_sem, seval, e0, *])
 ·have hv : g.Levels = ([], g.check) := by simp [Aig.Levels, h0]
  have hb : (g.check != 0) = true := by simpa using h0
  repeat' (first | simp (maxDischargeDepth := 9) -implicitDefEqProofs -dsimp only [go_sem, seval, *] | ((with_reducible apply ACalls.one1); (focus ((with_reducible refine ref_Check g _ hs) <;> (first | (simp (maxDischargeDepth := 9) -implicitDefEqProofs -dsimp only [go_sem, seval, *]; done) | omega))); (focus (first | trivial | with_reducible exact rfl | (simp (maxDischargeDepth := 9) -implicitDefEqProofs -dsimp only [go_sem, seval]; done)))))
  refine fin_eq ?_
  (repeat' simp (maxDischargeDepth := 9) -implicitDefEqProofs -dsimp only [go_sem, seval, *])
end Go.Proofs.Ytapnlmhfacoceaa.A

namespace Abs
open Go
inductive Sh where
 | bool
 | int (k : IntKind)
 | str
 | slice (agg : Bool) (e : Sh)
 | row (l : List Sh)
def shAll (f : TypeId → Option Sh) : List TypeId → Option (List Sh)
 | [] => some []
 | t :: ts => match f t, shAll f ts with
  | some s, some l => some (s :: l)
  | _, _ => none
def shOf (P : Program) : Nat → TypeId → Option Sh
 | 0, _ => none
 | g + 1, t =>
  match P.underlying t with
  | some .bool => some .bool
  | some (.int k) => some (.int k)
  | some .string => some .str
  | some (.slice e) => (shOf P g e).map (.slice (isAgg P e))
  | some (.struct fs) => (shAll (shOf P g) (fs.toList.map (·.type))).map .row
  | some (.array n e) => (shAll (shOf P g) (List.replicate n e)).map .row
  | _ => none
mutual
def ShC : Sh → List AV → Prop
 | .bool, cs => ∃ b, cs = [.bool b]
 | .int k, cs => ∃ n, cs = [.int k n] ∧ k.min ≤ n ∧ n ≤ k.max
 | .str, cs => ∃ s : ByteArray, cs = [.str s] ∧ s.size ≤ maxLen
 | .slice b e, cs => ∃ l, cs = [.slice l .no] ∧ l.length ≤ maxLen ∧ ∀ x ∈ l, ∃ es, mkv b es = some x ∧ ShC e es
 | .row l, cs => ShL l cs
def ShL : List Sh → List AV → Prop
 | [], cs => cs = []
 | s :: l, cs => ∃ p q, cs = p ++ q ∧ ShC s p ∧ ShL l q
end
theorem cells_sh {P : Program} : ∀ (g : Nat) (t : TypeId) (s : Sh) (cs : List AV), shOf P g t = some s → Cells P g t cs → ShC s cs
 | 0, _, _, _, h, _ => by simp [shOf] at h
 | g + 1, t, s, cs, h, hc => by
  have all : ∀ (ts : List TypeId) (l : List Sh) (cs : List AV), shAll (shOf P g) ts = some l → CellsL (Cells P g) ts cs → ShL l cs := by
   intro ts
   induction ts with
   | nil => intro l cs h hc; simp [shAll] at h; subst h; simpa [ShL, CellsL] using hc
   | cons t ts ih =>
    intro l cs h hc
    simp only [shAll] at h
    split at h <;> simp at h
    rename_i s' l' h1 h2
    subst h
    obtain ⟨p, q, e, c1, c2⟩ := hc
    exact ⟨p, q, e, cells_sh g t s' p h1 c1, ih l' q h2 c2⟩
  simp only [shOf] at h
  simp only [Cells] at hc
  split at h
  ·rename_i hu; rw [hu] at hc; simp at h; subst h; exact hc
  ·rename_i k hu; rw [hu] at hc; simp at h; subst h; exact hc
  ·rename_i hu; rw [hu] at hc; simp at h; subst h; exact hc
  ·rename_i e hu
   rw [hu] at hc
   simp only [Option.map_eq_some_iff] at h
   obtain ⟨s', h1, rfl⟩ := h
   obtain ⟨l, e1, e2, e3⟩ := hc
   refine ⟨l, e1, e2, fun x hx => ?_⟩
   obtain ⟨es, k1, k2⟩ := e3 x hx
   exact ⟨es, k1, cells_sh g e s' es h1 k2⟩
  ·rename_i fs hu
   rw [hu] at hc
   simp only [Option.map_eq_some_iff] at h
   obtain ⟨l, h1, rfl⟩ := h
   exact all _ l cs h1 hc
  ·rename_i n e hu
   rw [hu] at hc
   simp only [Option.map_eq_some_iff] at h
   obtain ⟨l, h1, rfl⟩ := h
   exact all _ l cs h1 hc
  ·simp at h
def ShV (b : Bool) (s : Sh) (a : AV) : Prop := ∃ es, mkv b es = some a ∧ ShC s es
def ShVs : List (Bool × Sh) → List AV → Prop
 | [], as_ => as_ = []
 | p :: l, as_ => ∃ a r, as_ = a :: r ∧ ShV p.1 p.2 a ∧ ShVs l r
def argSh (P : Program) (g : Nat) : List TypeId → Option (List (Bool × Sh))
 | [] => some []
 | t :: ts => match shOf P g t, argSh P g ts with
  | some s, some l => some ((isAgg P t, s) :: l)
  | _, _ => none
theorem args_sh {P : Program} {g : Nat} : ∀ {ts : List TypeId} {l : List (Bool × Sh)} {as_ : List AV}, argSh P g ts = some l → ArgsAre P g ts as_ → ShVs l as_
 | [], l, [], h, _ => by simp [argSh] at h; subst h; rfl
 | [], _, _ :: _, _, ha => ha.elim
 | t :: ts, _, [], _, ha => ha.elim
 | t :: ts, l, a :: as_, h, ha => by
  simp only [argSh] at h
  split at h <;> simp at h
  rename_i s l' h1 h2
  subst h
  obtain ⟨⟨es, k1, k2⟩, k3⟩ := ha
  exact ⟨a, as_, rfl, ⟨es, k1, cells_sh g t s es h1 k2⟩, args_sh h2 k3⟩
theorem list_dec {α : Type} {f : α → AV} {p : α → Prop} : ∀ {l : List AV}, (∀ x ∈ l, ∃ y, x = f y ∧ p y) → ∃ m : List α, l = m.map f ∧ ∀ y ∈ m, p y
 | [], _ => ⟨[], rfl, by simp⟩
 | x :: l, h => by
  obtain ⟨y, e, hy⟩ := h x (by simp)
  obtain ⟨m, e', hm⟩ := list_dec (l := l) fun x hx => h x (by simp [hx])
  exact ⟨y :: m, by simp [e, e'], by simpa using ⟨hy, hm⟩⟩
theorem shv_int {k : IntKind} {a : AV} (h : ShV false (.int k) a) : ∃ n, a = .int k n ∧ k.min ≤ n ∧ n ≤ k.max := by
 obtain ⟨es, h1, n, rfl, h2⟩ := h
 simp [mkv] at h1
 exact ⟨n, h1.symm, h2⟩
theorem shc_slice {b : Bool} {e : Sh} {cs : List AV} (h : ShC (.slice b e) cs) {α : Type} {f : α → AV} {p : α → Prop} (hd : ∀ x, ShV b e x → ∃ y, x = f y ∧ p y) : ∃ m : List α, cs = [.slice (m.map f) .no] ∧ m.length ≤ maxLen ∧ ∀ y ∈ m, p y := by
 obtain ⟨l, rfl, h2, h3⟩ := h
 obtain ⟨m, rfl, hm⟩ := list_dec (f := f) (p := p) (l := l) fun x hx => hd x (h3 x hx)
 exact ⟨m, rfl, by simpa using h2, hm⟩
end Abs

namespace Fil.Bd
abbrev T3 := Int × Int × Int
def frk (F : List T3) (n : Int) : T3 := F.getD n.toNat (0, 0, 0)
def top (vars : Int) (F : List T3) (n : Int) : Int := if n < 2 then vars else (frk F n).1
def tab (F : List T3) : Nat → Int → Int → List Bool
 | 0, _, n => [n == 1]
 | k + 1, v, n => if 2 ≤ n ∧ (frk F n).1 = v then tab F k (v + 1) (frk F n).2.1 ++ tab F k (v + 1) (frk F n).2.2 else tab F k (v + 1) n ++ tab F k (v + 1) n
structure Ok (vars : Int) (F : List T3) : Prop where
 two : 2 ≤ F.length
 lo : 0 ≤ vars
 var : ∀ i : Int, 2 ≤ i → i < F.length → 0 ≤ (frk F i).1 ∧ (frk F i).1 < vars
 ne : ∀ i : Int, 2 ≤ i → i < F.length → (frk F i).2.1 ≠ (frk F i).2.2
 low : ∀ i : Int, 2 ≤ i → i < F.length → 0 ≤ (frk F i).2.1 ∧ (frk F i).2.1 < i ∧ (frk F i).1 < top vars F (frk F i).2.1
 high : ∀ i : Int, 2 ≤ i → i < F.length → 0 ≤ (frk F i).2.2 ∧ (frk F i).2.2 < i ∧ (frk F i).1 < top vars F (frk F i).2.2
 uniq : ∀ i j : Int, 2 ≤ i → i < F.length → 2 ≤ j → j < F.length → frk F i = frk F j → i = j
def In (vars : Int) (F : List T3) (v n : Int) : Prop := 0 ≤ n ∧ n < F.length ∧ v ≤ top vars F n
theorem tab_len (F : List T3) : ∀ k v n, (tab F k v n).length = 2 ^ k
 | 0, v, n => rfl
 | k + 1, v, n => by
  simp only [tab]
  split <;> simp [tab_len F k] <;> omega
theorem tab_at {F : List T3} {k v n} (h : 2 ≤ n ∧ (frk F n).1 = v) : tab F (k + 1) v n = tab F k (v + 1) (frk F n).2.1 ++ tab F k (v + 1) (frk F n).2.2 := by rw [tab, if_pos h]
theorem tab_up {F : List T3} {k v n} (h : ¬ (2 ≤ n ∧ (frk F n).1 = v)) : tab F (k + 1) v n = tab F k (v + 1) n ++ tab F k (v + 1) n := by rw [tab, if_neg h]
theorem In.up {vars F v n} (h : In vars F v n) (ho : Ok vars F) {k : Nat} (hv : v + (k + 1 : Nat) = vars) (hn : ¬ (2 ≤ n ∧ (frk F n).1 = v)) : In vars F (v + 1) n := by
 obtain ⟨h1, h2, h3⟩ := h
 refine ⟨h1, h2, ?_⟩
 unfold top at h3 ⊢
 split
 ·omega
 ·rename_i h4
  rw [if_neg h4] at h3
  have : (frk F n).1 ≠ v := fun e => hn ⟨by omega, e⟩
  omega
theorem In.lo {vars F v n} (h : In vars F v n) (ho : Ok vars F) (hn : 2 ≤ n ∧ (frk F n).1 = v) : In vars F (v + 1) (frk F n).2.1 := by
 obtain ⟨h1, h2, h3⟩ := h
 obtain ⟨a, b, c⟩ := ho.low n hn.1 h2
 exact ⟨a, by omega, by omega⟩
theorem In.hi {vars F v n} (h : In vars F v n) (ho : Ok vars F) (hn : 2 ≤ n ∧ (frk F n).1 = v) : In vars F (v + 1) (frk F n).2.2 := by
 obtain ⟨h1, h2, h3⟩ := h
 obtain ⟨a, b, c⟩ := ho.high n hn.1 h2
 exact ⟨a, by omega, by omega⟩
theorem In.end {vars F n} (h : In vars F vars n) (ho : Ok vars F) : n = 0 ∨ n = 1 := by
 obtain ⟨h1, h2, h3⟩ := h
 unfold top at h3
 split at h3
 ·omega
 ·have := (ho.var n (by omega) h2).2
  omega
theorem canon {vars F} (ho : Ok vars F) : ∀ (k : Nat) (v n m : Int), v + k = vars → In vars F v n → In vars F v m → tab F k v n = tab F k v m → n = m
 | 0, v, n, m, hv, hn, hm, h => by
  have e : v = vars := by omega
  subst e
  rcases hn.end ho with rfl | rfl <;> rcases hm.end ho with rfl | rfl <;> first | rfl | (exfalso; revert h; simp [tab])
 | k + 1, v, n, m, hv, hn, hm, h => by
  have ih := canon ho k (v + 1)
  have hl : ∀ a b, (tab F k (v + 1) a).length = (tab F k (v + 1) b).length := fun a b => by rw [tab_len, tab_len]
  by_cases c1 : 2 ≤ n ∧ (frk F n).1 = v <;> by_cases c2 : 2 ≤ m ∧ (frk F m).1 = v
  ·rw [tab_at c1, tab_at c2] at h
   obtain ⟨e1, e2⟩ := List.append_inj h (hl _ _)
   have q1 := ih _ _ (by omega) (hn.lo ho c1) (hm.lo ho c2) e1
   have q2 := ih _ _ (by omega) (hn.hi ho c1) (hm.hi ho c2) e2
   refine ho.uniq n m c1.1 hn.2.1 c2.1 hm.2.1 ?_
   exact Prod.ext (c1.2.trans c2.2.symm) (Prod.ext q1 q2)
  ·rw [tab_at c1, tab_up c2] at h
   obtain ⟨e1, e2⟩ := List.append_inj h (hl _ _)
   have q1 := ih _ _ (by omega) (hn.lo ho c1) (hm.up ho hv c2) e1
   have q2 := ih _ _ (by omega) (hn.hi ho c1) (hm.up ho hv c2) e2
   exact absurd (q1.trans q2.symm) (ho.ne n c1.1 hn.2.1)
  ·rw [tab_up c1, tab_at c2] at h
   obtain ⟨e1, e2⟩ := List.append_inj h (hl _ _)
   have q1 := ih _ _ (by omega) (hn.up ho hv c1) (hm.lo ho c2) e1
   have q2 := ih _ _ (by omega) (hn.up ho hv c1) (hm.hi ho c2) e2
   exact absurd (q1.symm.trans q2) (ho.ne m c2.1 hm.2.1)
  ·rw [tab_up c1, tab_up c2] at h
   obtain ⟨e1, e2⟩ := List.append_inj h (hl _ _)
   exact ih _ _ (by omega) (hn.up ho hv c1) (hm.up ho hv c2) e1

/-! ### What is there stays -/
theorem frk_app {F l : List T3} {n : Int} (h0 : 0 ≤ n) (h : n < F.length) : frk (F ++ l) n = frk F n := by
 unfold frk
 rw [List.getD_eq_getElem?_getD, List.getD_eq_getElem?_getD, List.getElem?_append_left (by omega)]
theorem top_app {vars} {F l : List T3} {n : Int} (h : n < F.length) : top vars (F ++ l) n = top vars F n := by
 unfold top
 split
 ·rfl
 ·rw [frk_app (by omega) h]
theorem In.app {vars F v n} (l : List T3) (h : In vars F v n) : In vars (F ++ l) v n :=
 ⟨h.1, by have := h.2.1; simp; omega, by rw [top_app h.2.1]; exact h.2.2⟩
theorem tab_app {vars F} (ho : Ok vars F) (l : List T3) : ∀ (k : Nat) (v n : Int), 0 ≤ n → n < F.length → tab (F ++ l) k v n = tab F k v n
 | 0, v, n, _, _ => rfl
 | k + 1, v, n, h0, h => by
  simp only [tab, frk_app h0 h]
  split
  ·rename_i c
   obtain ⟨a, b, _⟩ := ho.low n c.1 h
   obtain ⟨a', b', _⟩ := ho.high n c.1 h
   rw [tab_app ho l k _ _ a (by omega), tab_app ho l k _ _ a' (by omega)]
  ·rw [tab_app ho l k _ _ h0 h]

/-! ### What is put -/
def fnd : List T3 → T3 → Int → Option Int
 | [], _, _ => none
 | y :: r, x, i => if y = x then some i else fnd r x (i + 1)
theorem fnd_some : ∀ {l : List T3} {x : T3} {i n : Int}, fnd l x i = some n → i ≤ n ∧ n < i + l.length ∧ l.getD (n - i).toNat (0, 0, 0) = x
 | [], x, i, n, h => by simp [fnd] at h
 | y :: r, x, i, n, h => by
  simp only [fnd] at h
  split at h
  ·rename_i e
   simp at h; subst h
   simp [e]; omega
  ·obtain ⟨a, b, c⟩ := fnd_some h
   refine ⟨by omega, by simp; omega, ?_⟩
   have : (n - i).toNat = (n - (i + 1)).toNat + 1 := by omega
   rw [this]; simpa using c
theorem fnd_none : ∀ {l : List T3} {x : T3} {i : Int}, fnd l x i = none → ∀ j : Nat, j < l.length → l.getD j (0, 0, 0) ≠ x
 | [], x, i, h, j, hj => by simp at hj
 | y :: r, x, i, h, j, hj => by
  simp only [fnd] at h
  split at h
  ·simp at h
  ·rename_i e
   cases j with
   | zero => simpa using e
   | succ j => simpa using fnd_none h j (by simpa using hj)
def find (F : List T3) (x : T3) : Option Int := fnd (F.drop 2) x 2
theorem getD_drop (F : List T3) (i : Nat) : (F.drop 2).getD i (0, 0, 0) = F.getD (2 + i) (0, 0, 0) := by
 simp [List.getD_eq_getElem?_getD]
theorem find_some {F x n} (h : find F x = some n) : 2 ≤ n ∧ n < F.length ∧ frk F n = x := by
 obtain ⟨a, b, c⟩ := fnd_some h
 rw [getD_drop] at c
 simp only [List.length_drop] at b
 refine ⟨a, by omega, ?_⟩
 unfold frk
 rw [← c]; congr 1; omega
theorem find_none {F x} (h : find F x = none) (n : Int) (h2 : 2 ≤ n) (hn : n < F.length) : frk F n ≠ x := by
 have := fnd_none h (n.toNat - 2) (by simp; omega)
 rw [getD_drop] at this
 unfold frk
 rwa [show 2 + (n.toNat - 2) = n.toNat by omega] at this
theorem find_eq {vars F} (ho : Ok vars F) {n : Int} (h2 : 2 ≤ n) (hn : n < F.length) {x} (hx : frk F n = x) : find F x = some n := by
 cases h : find F x with
 | none => exact absurd hx (find_none h n h2 hn)
 | some m =>
  obtain ⟨a, b, c⟩ := find_some h
  rw [ho.uniq n m h2 hn a b (hx.trans c.symm)]
def put : Nat → List T3 → Int → List Bool → List T3 × Int
 | 0, F, _, t => (F, if t.headD false then 1 else 0)
 | k + 1, F, v, t =>
  if t.take (2 ^ k) = t.drop (2 ^ k) then put k F (v + 1) (t.take (2 ^ k))
  else
   let a := put k F (v + 1) (t.take (2 ^ k))
   let b := put k a.1 (v + 1) (t.drop (2 ^ k))
   match find b.1 (v, a.2, b.2) with
   | some i => (b.1, i)
   | none => (b.1 ++ [(v, a.2, b.2)], b.1.length)
theorem put_same {k F v t} (h : t.length = 2 ^ k) : put (k + 1) F v (t ++ t) = put k F (v + 1) t := by
 simp only [put]
 rw [List.take_left' h, List.drop_left' h, if_pos rfl]
theorem put_two {k F v s t} (h : s.length = 2 ^ k) (hne : s ≠ t) : put (k + 1) F v (s ++ t) =
  (match find (put k (put k F (v + 1) s).1 (v + 1) t).1 (v, (put k F (v + 1) s).2, (put k (put k F (v + 1) s).1 (v + 1) t).2) with
   | some i => ((put k (put k F (v + 1) s).1 (v + 1) t).1, i)
   | none => ((put k (put k F (v + 1) s).1 (v + 1) t).1 ++ [(v, (put k F (v + 1) s).2, (put k (put k F (v + 1) s).1 (v + 1) t).2)], ((put k (put k F (v + 1) s).1 (v + 1) t).1.length : Int))) := by
 simp only [put]
 rw [List.take_left' h, List.drop_left' h, if_neg hne]
theorem put_present {vars F} (ho : Ok vars F) : ∀ (k : Nat) (v n : Int), v + k = vars → In vars F v n → put k F v (tab F k v n) = (F, n)
 | 0, v, n, hv, hn => by
  have e : v = vars := by omega
  subst e
  rcases hn.end ho with rfl | rfl <;> simp [put, tab]
 | k + 1, v, n, hv, hn => by
  by_cases c : 2 ≤ n ∧ (frk F n).1 = v
  ·rw [tab_at c, put_two (tab_len ..)]
   ·have h1 := put_present ho k (v + 1) _ (by omega) (hn.lo ho c)
    have h2 := put_present ho k (v + 1) _ (by omega) (hn.hi ho c)
    simp only [h1, h2]
    rw [find_eq ho c.1 hn.2.1 (x := (v, (frk F n).2.1, (frk F n).2.2)) (by rw [← c.2])]
   ·intro e
    exact ho.ne n c.1 hn.2.1 (canon ho k (v + 1) _ _ (by omega) (hn.lo ho c) (hn.hi ho c) e)
  ·rw [tab_up c, put_same (tab_len ..)]
   exact put_present ho k (v + 1) n (by omega) (hn.up ho hv c)
theorem Ok.push {vars F} (ho : Ok vars F) {v lo hi : Int} (hv0 : 0 ≤ v) (hv : v < vars) (hne : lo ≠ hi) (h1 : In vars F (v + 1) lo) (h2 : In vars F (v + 1) hi) (hf : find F (v, lo, hi) = none) :
  Ok vars (F ++ [(v, lo, hi)]) ∧ frk (F ++ [(v, lo, hi)]) F.length = (v, lo, hi) := by
 have hlast : frk (F ++ [(v, lo, hi)]) F.length = (v, lo, hi) := by simp [frk, List.getD_eq_getElem?_getD]
 refine ⟨?_, hlast⟩
 have split : ∀ i : Int, 2 ≤ i → i < (F ++ [(v, lo, hi)]).length → (i < F.length ∧ frk (F ++ [(v, lo, hi)]) i = frk F i) ∨ (i = F.length ∧ frk (F ++ [(v, lo, hi)]) i = (v, lo, hi)) := fun i a b => by
  simp at b
  by_cases c : i < F.length
  ·exact .inl ⟨c, frk_app (by omega) c⟩
  ·have e : i = F.length := by omega
   subst e; exact .inr ⟨rfl, hlast⟩
 refine ⟨by have := ho.two; simp; omega, ho.lo, fun i a b => ?_, fun i a b => ?_, fun i a b => ?_, fun i a b => ?_, fun i j a b c d e => ?_⟩
 ·rcases split i a b with ⟨q, e⟩ | ⟨q, e⟩ <;> rw [e]
  ·exact ho.var i a q
  ·exact ⟨hv0, hv⟩
 ·rcases split i a b with ⟨q, e⟩ | ⟨q, e⟩ <;> rw [e]
  ·exact ho.ne i a q
  ·exact hne
 ·rcases split i a b with ⟨q, e⟩ | ⟨q, e⟩ <;> rw [e]
  ·obtain ⟨x, y, z⟩ := ho.low i a q
   exact ⟨x, y, by rw [top_app (by omega)]; exact z⟩
  ·exact ⟨h1.1, by have := h1.2.1; subst q; exact this, by rw [top_app h1.2.1]; have := h1.2.2; show v < _; omega⟩
 ·rcases split i a b with ⟨q, e⟩ | ⟨q, e⟩ <;> rw [e]
  ·obtain ⟨x, y, z⟩ := ho.high i a q
   exact ⟨x, y, by rw [top_app (by omega)]; exact z⟩
  ·exact ⟨h2.1, by have := h2.2.1; subst q; exact this, by rw [top_app h2.2.1]; have := h2.2.2; show v < _; omega⟩
 ·rcases split i a b with ⟨q, e1⟩ | ⟨q, e1⟩ <;> rcases split j c d with ⟨q', e2⟩ | ⟨q', e2⟩ <;> rw [e1, e2] at e
  ·exact ho.uniq i j a q c q' e
  ·exact absurd e (find_none hf i a q)
  ·exact absurd e.symm (find_none hf j c q')
  ·omega
end Fil.Bd

namespace Fil.Bd
def get3 : List (T3 × Int) → T3 → Option Int
 | [], _ => none
 | p :: r, k => if p.1 = k then some p.2 else get3 r k
def set3 : List (T3 × Int) → T3 → Int → List (T3 × Int)
 | [], k, v => [(k, v)]
 | p :: r, k, v => if p.1 = k then (k, v) :: r else p :: set3 r k v
def get1 : List (Int × Int) → Int → Option Int
 | [], _ => none
 | p :: r, k => if p.1 = k then some p.2 else get1 r k
structure Mac where
 forks : List T3
 at_ : List (T3 × Int)
 done : List (T3 × Int)
def halfM (vars : Int) (F : List T3) (n v : Int) (way : Bool) : Int :=
 if top vars F n ≠ v then n else if way then (frk F n).2.2 else (frk F n).2.1
def tops (vars : Int) (F : List T3) (f g h : Int) : Int := min (top vars F f) (min (top vars F g) (top vars F h))
def iteT : List Bool → List Bool → List Bool → List Bool
 | x :: a, y :: b, z :: c => (if x then y else z) :: iteT a b c
 | _, _, _ => []
def exT : Nat → Nat → List Bool → List Bool
 | 0, _, t => t
 | k + 1, 0, t => iteT (t.take (2 ^ k)) (List.replicate (2 ^ k) true) (t.drop (2 ^ k)) ++ iteT (t.take (2 ^ k)) (List.replicate (2 ^ k) true) (t.drop (2 ^ k))
 | k + 1, d + 1, t => exT k d (t.take (2 ^ k)) ++ exT k d (t.drop (2 ^ k))
def DoneOk (vars : Int) (F : List T3) (key : T3) (n : Int) : Prop :=
 (0 ≤ key.2.2 → (0 ≤ key.1 ∧ key.1 < F.length) ∧ (0 ≤ key.2.1 ∧ key.2.1 < F.length) ∧ (0 ≤ key.2.2 ∧ key.2.2 < F.length) ∧
  ∀ k : Nat, tops vars F key.1 key.2.1 key.2.2 + k = vars → In vars F (tops vars F key.1 key.2.1 key.2.2) n ∧
   tab F k (tops vars F key.1 key.2.1 key.2.2) n = iteT (tab F k (tops vars F key.1 key.2.1 key.2.2) key.1) (tab F k (tops vars F key.1 key.2.1 key.2.2) key.2.1) (tab F k (tops vars F key.1 key.2.1 key.2.2) key.2.2)) ∧
 (key.2.2 < 0 → (0 ≤ key.1 ∧ key.1 < F.length) ∧ ∀ k : Nat, top vars F key.1 + k = vars → In vars F (top vars F key.1) n ∧ tab F k (top vars F key.1) n = exT k (key.2.1 - top vars F key.1).toNat (tab F k (top vars F key.1) key.1))
structure MOk (vars : Int) (s : Mac) : Prop where
 ok : Ok vars s.forks
 at1 : ∀ x n, get3 s.at_ x = some n → 2 ≤ n ∧ n < s.forks.length ∧ frk s.forks n = x
 at2 : ∀ n : Int, 2 ≤ n → n < s.forks.length → get3 s.at_ (frk s.forks n) = some n
def Kept (P : List T3 → T3 → Int → Prop) (s : Mac) : Prop := ∀ k n, get3 s.done k = some n → P s.forks k n
theorem DoneOk.app {vars F key n} (ho : Ok vars F) (l : List T3) (h : DoneOk vars F key n) : DoneOk vars (F ++ l) key n := by
 refine ⟨fun hk => ?_, fun hk => ?_⟩
 rotate_left
 ·obtain ⟨h1, h2⟩ := h.2 hk
  rw [top_app h1.2]
  refine ⟨⟨h1.1, by simp; omega⟩, fun k hv => ?_⟩
  obtain ⟨q1, q2⟩ := h2 k hv
  exact ⟨q1.app l, by rw [tab_app ho _ _ _ _ q1.1 q1.2.1, tab_app ho _ _ _ _ h1.1 h1.2, q2]⟩
 obtain ⟨h1, h2, h3, h4⟩ := h.1 hk
 have et : tops vars (F ++ l) key.1 key.2.1 key.2.2 = tops vars F key.1 key.2.1 key.2.2 := by unfold tops; rw [top_app h1.2, top_app h2.2, top_app h3.2]
 rw [et]
 refine ⟨⟨h1.1, by simp; omega⟩, ⟨h2.1, by simp; omega⟩, ⟨h3.1, by simp; omega⟩, fun k hv => ?_⟩
 obtain ⟨q1, q2⟩ := h4 k hv
 exact ⟨q1.app l, by rw [tab_app ho _ _ _ _ q1.1 q1.2.1, tab_app ho _ _ _ _ h1.1 h1.2, tab_app ho _ _ _ _ h2.1 h2.2, tab_app ho _ _ _ _ h3.1 h3.2, q2]⟩
structure Made (vars : Int) (s : Mac) (k : Nat) (v : Int) (t : List Bool) (r : Mac × Int) : Prop where
 ok : MOk vars r.1
 kept : Kept (DoneOk vars) r.1
 put : (r.1.forks, r.2) = put k s.forks v t
theorem Made.same {vars s k v t n} (h : MOk vars s) (hk : Kept (DoneOk vars) s) (hv : v + (k : Nat) = vars) (hn : In vars s.forks v n) (ht : tab s.forks k v n = t) : Made vars s k v t (s, n) :=
 ⟨h, hk, by rw [← ht, put_present h.ok k v n hv hn]⟩
end Fil.Bd

namespace Fil.Bd
def Seen (vars : Int) (from_ F : List T3) (seen : List (Int × Int)) : Prop := ∀ n a, get1 seen n = some a → (2 ≤ n ∧ n < from_.length) ∧ In vars F (top vars from_ n) a ∧ ∀ k : Nat, top vars from_ n + k = vars → tab F k (top vars from_ n) a = tab from_ k (top vars from_ n) n
theorem Seen.app {vars : Int} {G F : List T3} {seen} (h : Seen vars G F seen) (ho : Ok vars F) (l : List T3) : Seen vars G (F ++ l) seen := fun n a e => by
 obtain ⟨h1, h2, h3⟩ := h n a e
 exact ⟨h1, h2.app l, fun k hk => by rw [tab_app ho _ _ _ _ h2.1 h2.2.1, h3 k hk]⟩
end Fil.Bd

namespace Fil.Bd
structure Parts (vars : Int) (n : Nat) (s : Mac) (f g h v0 : Int) (a b : Mac × Int) : Prop where
 lo : 0 ≤ v0
 hi : v0 < vars
 f0 : In vars s.forks (v0 + 1) (halfM vars s.forks f v0 false)
 g0 : In vars s.forks (v0 + 1) (halfM vars s.forks g v0 false)
 h0 : In vars s.forks (v0 + 1) (halfM vars s.forks h v0 false)
 am : MOk vars a.1
 ak : Kept (DoneOk vars) a.1
 al : a.1.forks.length + 2 ^ n ≤ s.forks.length + 2 ^ (n + 1)
 af : s.forks.length ≤ a.1.forks.length
 f1 : In vars a.1.forks (v0 + 1) (halfM vars a.1.forks f v0 true)
 g1 : In vars a.1.forks (v0 + 1) (halfM vars a.1.forks g v0 true)
 h1 : In vars a.1.forks (v0 + 1) (halfM vars a.1.forks h v0 true)
 bl : b.1.forks.length + 2 ≤ s.forks.length + 2 ^ (n + 1)
end Fil.Bd

namespace Fil.Bd
def und (F : List T3) (n v i : Int) : Bool := decide (0 ≤ n ∧ n < i ∧ (n < 2 ∨ v < (frk F n).1))
def atL (F : List T3) : Nat → List (T3 × Int)
 | 0 => []
 | j + 1 => set3 (atL F j) (frk F (j + 2)) (j + 2)
def bad (vars : Int) (F : List T3) (j : Nat) : Bool :=
 (get3 (atL F j) (frk F (j + 2))).isSome || decide ((frk F (j + 2)).1 < 0) || decide (vars ≤ (frk F (j + 2)).1) || decide ((frk F (j + 2)).2.1 = (frk F (j + 2)).2.2) ||
  !und F (frk F (j + 2)).2.1 (frk F (j + 2)).1 (j + 2) || !und F (frk F (j + 2)).2.2 (frk F (j + 2)).1 (j + 2)
def head (vars : Int) (F : List T3) : Bool := decide (vars < 0) || decide (32 < vars) || decide (F.length < 2) || decide (frk F 0 ≠ (-1, 0, 0)) || decide (frk F 1 ≠ (-1, 0, 0))
def chk (vars : Int) (F : List T3) : Int :=
 if 65536 < F.length then 220 else if head vars F = true then 1 else if (List.range (F.length - 2)).any (bad vars F) = true then 1 else 0
structure Fine (vars : Int) (F : List T3) : Prop extends Ok vars F where
 few : vars ≤ 32
 all : F.length ≤ 65536
 end0 : frk F 0 = (-1, 0, 0)
 end1 : frk F 1 = (-1, 0, 0)
end Fil.Bd

namespace Fil.Bd
def outside (F : List T3) (n : Int) : Bool := decide (n < 0) || decide ((F.length : Int) ≤ n)
abbrev D := Int × List T3
def T (b : D) (f : Int) : List Bool := tab b.2 b.1.toNat 0 f
def askE (b : D) (l : List Int) (no : Bool) : Int := if chk b.1 b.2 ≠ 0 then chk b.1 b.2 else if (l.any (outside b.2) || no) = true then 1 else 0
def opW (b : D) (e : Int) (t : List Bool) : D × Int × Int := if e ≠ 0 then ((0, []), 0, e) else ((b.1, (put b.1.toNat b.2 0 t).1), (put b.1.toNat b.2 0 t).2, 0)
def iteW (b : D) (f g h : Int) : D × Int × Int := opW b (askE b [f, g, h] false) (iteT (T b f) (T b g) (T b h))
def notW (b : D) (f : Int) : D × Int × Int := iteW b f 0 1
def off (b : D) (n : Int) : Bool := decide (n < 0) || decide (b.1 ≤ n)
def varT : Nat → Nat → List Bool
 | 0, _ => []
 | k + 1, 0 => List.replicate (2 ^ k) false ++ List.replicate (2 ^ k) true
 | k + 1, d + 1 => varT k d ++ varT k d
def varW (b : D) (n : Int) : D × Int × Int := opW b (askE b [] (off b n)) (varT b.1.toNat n.toNat)
end Fil.Bd

namespace Fil.Bd
def one1 (F : List T3) : Nat → Int → List Bool → List Bool
 | 0, _, l => l
 | k + 1, n, l => if n < 2 then l else if (frk F n).2.1 = 0 then one1 F k (frk F n).2.2 (l.set (frk F n).1.toNat true) else one1 F k (frk F n).2.1 l
end Fil.Bd

namespace Fil.Bd
def cnt (t : List Bool) : Int := ((t.count true : Nat) : Int)
def cn (vars : Int) (F : List T3) (n : Int) : Int := cnt (tab F (vars - top vars F n).toNat (top vars F n) n)
end Fil.Bd

namespace Fil.Bd
def lookT : List Bool → List Bool → Bool
 | t, [] => t.headD false
 | t, x :: w => lookT (if x then t.drop (2 ^ w.length) else t.take (2 ^ w.length)) w
end Fil.Bd

namespace Fil.Bd
def bit (i k : Nat) : Bool := (i / 2 ^ k % 2 == 1)
def row (k i : Nat) : List Bool := (List.range k).map fun j => bit i (k - 1 - j)
def findI (F : List T3) (x : T3) : Int := (find F x).getD (-1)
theorem put_2 {k : Nat} {F : List T3} {v : Int} {t : List Bool} (hs : t.take (2 ^ k) ≠ t.drop (2 ^ k)) {C G : List T3} {lo hi : Int} (h1 : put k F (v + 1) (t.take (2 ^ k)) = (C, lo)) (h2 : put k C (v + 1) (t.drop (2 ^ k)) = (G, hi)) :
  (0 ≤ findI G (v, lo, hi) ∧ put (k + 1) F v t = (G, findI G (v, lo, hi))) ∨ (findI G (v, lo, hi) = -1 ∧ put (k + 1) F v t = (G ++ [(v, lo, hi)], (G.length : Int))) := by
 simp only [put, if_neg hs, h1, h2]
 unfold findI
 cases hf : find G (v, lo, hi) with
 | some i =>
  have := (find_some hf).1
  exact .inl ⟨by show 0 ≤ i; omega, rfl⟩
 | none => exact .inr ⟨rfl, rfl⟩
end Fil.Bd

namespace Fil.Bd
theorem T_app {vars : Int} {F l : List T3} (ho : Ok vars F) {f : Int} (i : In vars F 0 f) : T (vars, F ++ l) f = T (vars, F) f := tab_app ho l _ _ _ i.1 i.2.1
end Fil.Bd

namespace Fil.Bd
theorem len_le_of_nodup {α : Type} [DecidableEq α] : ∀ (l m : List α), l.Nodup → (∀ x ∈ l, x ∈ m) → l.length ≤ m.length
 | [], m, _, _ => by simp
 | x :: l, m, h, hs => by
  have hx : x ∈ m := hs x (by simp)
  have hn := List.nodup_cons.1 h
  have := len_le_of_nodup l (m.erase x) hn.2 fun y hy => by
   have hne : y ≠ x := fun e => hn.1 (e ▸ hy)
   exact (List.mem_erase_of_ne hne).2 (hs y (by simp [hy]))
  rw [List.length_erase_of_mem hx] at this
  have hp := List.length_pos_of_mem hx
  simp only [List.length_cons]; omega
def allT : Nat → List (List Bool)
 | 0 => [[]]
 | n + 1 => (allT n).flatMap fun t => [false :: t, true :: t]
theorem allT_mem : ∀ (t : List Bool), t ∈ allT t.length
 | [] => by simp [allT]
 | x :: t => by
  simp only [List.length_cons, allT, List.mem_flatMap]
  exact ⟨t, allT_mem t, by cases x <;> simp⟩
theorem allT_len : ∀ n, (allT n).length = 2 ^ n
 | 0 => rfl
 | n + 1 => by
  have : ∀ l : List (List Bool), (l.flatMap fun t => [false :: t, true :: t]).length = 2 * l.length := fun l => by
   induction l with
   | nil => rfl
   | cons x l ih => simp only [List.flatMap_cons, List.length_append, List.length_cons, List.length_nil, ih]; omega
  rw [allT, this, allT_len n, Nat.pow_succ]; omega
def lowK (k : Nat) : List (Nat × List Bool) := (List.range k).flatMap fun j => (allT (2 ^ (j + 1))).map fun t => (j, t)
def isLow (vars : Int) (k : Nat) (F : List T3) (i : Nat) : Bool := decide (2 ≤ i) && decide (vars ≤ (frk F i).1 + k)
def isUp (vars : Int) (k : Nat) (F : List T3) (i : Nat) : Bool := decide (2 ≤ i) && !decide (vars ≤ (frk F i).1 + k)
theorem low_count {vars : Int} {F : List T3} (ho : Ok vars F) (k : Nat) : ((List.range F.length).filter (isLow vars k F)).length ≤ (lowK k).length := by
 have key : ((List.range F.length).filter (isLow vars k F)).length = (((List.range F.length).filter (isLow vars k F)).map fun i : Nat => ((vars - (frk F i).1).toNat - 1, tab F (vars - (frk F i).1).toNat (frk F i).1 i)).length := by simp
 rw [key]
 have hmem : ∀ i, i ∈ (List.range F.length).filter (isLow vars k F) → i < F.length ∧ 2 ≤ i ∧ vars ≤ (frk F i).1 + k := fun i h => by
  simp only [List.mem_filter, List.mem_range, isLow, Bool.and_eq_true, decide_eq_true_eq] at h
  exact ⟨h.1, h.2.1, h.2.2⟩
 refine len_le_of_nodup _ _ ?_ ?_
 ·have hnd : ((List.range F.length).filter (isLow vars k F)).Nodup := List.nodup_range.filter _
  refine List.pairwise_map.2 (hnd.imp_of_mem ?_)
  intro i j hi hj hne he
  obtain ⟨i1, i2, i3⟩ := hmem i hi
  obtain ⟨j1, j2, j3⟩ := hmem j hj
  have vi := ho.var i (by omega) (by omega)
  have vj := ho.var j (by omega) (by omega)
  simp only [Prod.mk.injEq] at he
  have hv : (frk F i).1 = (frk F j).1 := by omega
  rw [hv] at he
  apply hne
  have := canon ho (vars - (frk F j).1).toNat (frk F j).1 i j (by omega) ⟨by omega, by omega, by unfold top; rw [if_neg (by omega)]; omega⟩ ⟨by omega, by omega, by unfold top; rw [if_neg (by omega)]; omega⟩ he.2
  omega
 ·intro x hx
  simp only [List.mem_map] at hx
  obtain ⟨i, hi, rfl⟩ := hx
  obtain ⟨i1, i2, i3⟩ := hmem i hi
  have vi := ho.var i (by omega) (by omega)
  simp only [lowK, List.mem_flatMap, List.mem_range, List.mem_map]
  refine ⟨(vars - (frk F i).1).toNat - 1, by omega, _, ?_, rfl⟩
  have hl := tab_len F (vars - (frk F i).1).toNat (frk F i).1 i
  have := allT_mem (tab F (vars - (frk F i).1).toNat (frk F i).1 i)
  rw [hl] at this
  rwa [show (vars - (frk F i).1).toNat - 1 + 1 = (vars - (frk F i).1).toNat by omega]
def ups (vars : Int) (k : Nat) (F : List T3) : Nat := ((List.range F.length).filter (isUp vars k F)).length
theorem len_ups {vars : Int} {F : List T3} (ho : Ok vars F) (k : Nat) : F.length ≤ 2 + ups vars k F + (lowK k).length := by
 have h1 := low_count ho k
 have h2 : F.length = ((List.range F.length).filter fun i => decide (i < 2)).length + ups vars k F + ((List.range F.length).filter (isLow vars k F)).length := by
  have : ∀ l : List Nat, l.length = (l.filter fun i => decide (i < 2)).length + (l.filter (isUp vars k F)).length + (l.filter (isLow vars k F)).length := fun l => by
   induction l with
   | nil => rfl
   | cons x l ih =>
    have hc : (isUp vars k F x = true ∧ isLow vars k F x = false ∧ ¬ x < 2) ∨ (isUp vars k F x = false ∧ isLow vars k F x = true ∧ ¬ x < 2) ∨ (isUp vars k F x = false ∧ isLow vars k F x = false ∧ x < 2) := by
     unfold isUp isLow
     by_cases a : 2 ≤ x <;> by_cases b : vars ≤ (frk F x).1 + k <;> simp [a, b] <;> omega
    simp only [List.filter_cons, List.length_cons]
    rcases hc with ⟨a, b, c⟩ | ⟨a, b, c⟩ | ⟨a, b, c⟩ <;> simp [a, b, c] <;> omega
  have := this (List.range F.length)
  simpa [ups] using this
 have h3 : ((List.range F.length).filter fun i => decide (i < 2)).length ≤ 2 := by
  have := len_le_of_nodup ((List.range F.length).filter fun i => decide (i < 2)) [0, 1] (List.nodup_range.filter _) fun x hx => by
   simp only [List.mem_filter, decide_eq_true_eq] at hx
   have := hx.2
   simp; omega
  simpa using this
 omega
theorem low3 : (lowK 3).length = 276 := by
 simp only [lowK, List.length_flatMap, List.length_map, allT_len]
 rfl
end Fil.Bd

namespace Fil
open Abs
section
variable {g : Aig} {a b : Int}
theorem checkL_two (hc : g.check = 0) (ha : g.lit a = true) (hb : g.lit b = true) : g.checkL g.check [a, b] = 0 := checkL_zero.2 ⟨hc, by simp [ha, hb]⟩
end
end Fil

namespace Fil
open Abs
def Res (g : Aig) (n : Nat) (l : List Int) (r : Aig × Int × Int) : Prop :=
 (r.2.2 = 0 ∧ g.check = 0 ∧ (∀ a ∈ l, g.lit a = true) ∧ Fine r.1 ∧ Ext g r.1 ∧ r.1.lit r.2.1 = true ∧ r.1.ands.length ≤ g.ands.length + n) ∨ (r.2.2 ≠ 0 ∧ r.1 = ⟨0, [], [], []⟩ ∧ r.2.1 = 0)
theorem andO_len {g g' : Aig} {p q x : Int} (h : g.andO p q = some (g', x)) : g'.ands.length ≤ g.ands.length + 1 := by
 unfold Aig.andO at h
 simp only at h
 split at h
 ·simp at h; obtain ⟨rfl, _⟩ := h; omega
 ·split at h
  ·simp at h; obtain ⟨rfl, _⟩ := h; omega
  ·split at h
   ·simp at h; obtain ⟨rfl, _⟩ := h; omega
   ·split at h
    ·simp at h
    ·simp at h; obtain ⟨rfl, _⟩ := h; simp
theorem andW_len (g : Aig) (e p q : Int) : (g.andW e p q).1.ands.length ≤ g.ands.length + 1 := by
 unfold Aig.andW
 split
 ·simp
 ·cases h : g.andO p q with
  | none => simp
  | some r => exact andO_len h
theorem and_res {g : Aig} (hs : Wf g) (a b : Int) : Res g 1 [a, b] (g.And a b) := by
 unfold Aig.And
 have hk : g.checkL g.check [a, b] = 0 → Fine g ∧ g.lit a = true ∧ g.lit b = true := fun h => by
  obtain ⟨h1, h2⟩ := checkL_fine hs h
  exact ⟨h1, h2 _ (by simp), h2 _ (by simp)⟩
 have ok := andW_ok hk
 by_cases h : (g.andW (g.checkL g.check [a, b]) a b).2.1 = 0
 ·left
  rw [endW_ok h]
  have h0 := andW_err h
  obtain ⟨k1, k2⟩ := hk h0
  exact ⟨rfl, (checkL_zero.1 h0).1, (checkL_zero.1 h0).2, (ok.1 h).1, ok.2.1, (ok.1 h).2, andW_len _ _ _ _⟩
 ·right
  rw [endW_err h]
  exact ⟨h, rfl, rfl⟩
theorem zero_wf : Wf ⟨0, [], [], []⟩ := ⟨by simp [I64], by simp, by simp, by simp, by simp, by simp, by simp⟩
theorem Res.wf {g : Aig} {n : Nat} {l : List Int} {r : Aig × Int × Int} (h : Res g n l r) : Wf r.1 ∧ I64 r.2.1 := by
 rcases h with ⟨_, _, _, h, _, hl, _⟩ | ⟨_, h, h'⟩
 ·have := litN_iff.1 hl
  have := h.cnt
  exact ⟨h.toWf, by omega, by omega⟩
 ·rw [h, h']; exact ⟨zero_wf, by simp [I64]⟩
end Fil

namespace Fil
open Abs
theorem ext_check {g h : Aig} (hs : Wf g) (hc : g.check = 0) (hx : Ext g h) (hf : Fine h) : h.check = 0 := by
 have hcn := hf.cnt
 have hlo := hf.lo
 unfold Aig.check at hc ⊢
 split at hc
 ·simp at hc
 ·split at hc
  ·simp at hc
  ·split at hc
   ·rename_i h1 h2 h3
    rw [if_neg (by omega), if_neg (by rw [hx.ins, hx.outs]; omega), if_pos]
    simp only [Aig.good, Bool.and_eq_true, Bool.not_eq_true', List.any_eq_false, Bool.not_eq_true, Bool.not_eq_false'] at h3 ⊢
    refine ⟨⟨hf.gok, fun f hm => ?_⟩, fun a hm => ?_⟩
    ·rw [hx.flops] at hm; exact fun hn => by have := hx.lit (by simpa using h3.1.2 f hm : g.lit f.next = true); rw [hn] at this; simp at this
    ·rw [hx.outs] at hm; exact fun hn => by have := hx.lit (by simpa using h3.2 a hm : g.lit a = true); rw [hn] at this; simp at this
   ·simp at hc
theorem Res.check {g : Aig} (hs : Wf g) {n : Nat} {l : List Int} {r : Aig × Int × Int} (h : Res g n l r) (h0 : r.2.2 = 0) : r.1.check = 0 ∧ Fine r.1 ∧ Ext g r.1 ∧ r.1.lit r.2.1 = true ∧ r.1.ands.length ≤ g.ands.length + n ∧ (∀ a ∈ l, g.lit a = true) ∧ g.check = 0 := by
 rcases h with ⟨_, hc, hl, hf, hx, hl', hn⟩ | ⟨h, _⟩
 ·exact ⟨ext_check hs hc hx hf, hf, hx, hl', hn, hl, hc⟩
 ·exact (h h0).elim
theorem Res.checkL {g : Aig} (hs : Wf g) {n : Nat} {l m : List Int} {r : Aig × Int × Int} (h : Res g n l r) (h0 : r.2.2 = 0) (hm : ∀ a ∈ m, a ∈ l) : r.1.checkL r.1.check m = 0 := by
 obtain ⟨h1, _, hx, _, _, hl, _⟩ := h.check hs h0
 exact checkL_zero.2 ⟨h1, fun a ha => hx.lit (hl a (hm a ha))⟩
end Fil

namespace Fil
open Abs
theorem vals_prefix : ∀ (l : List (Int × Int)) (v : List Bool), ∃ m, Aig.vals v l = v ++ m
 | [], v => ⟨[], by simp [Aig.vals]⟩
 | x :: l, v => by
  obtain ⟨m, hm⟩ := vals_prefix l (v ++ [Aig.val v x.1 && Aig.val v x.2])
  exact ⟨_ :: m, by rw [Aig.vals, hm, List.append_assoc]; rfl⟩
theorem val_app {v m : List Bool} {a : Int} (h : (a / 2).toNat < v.length) : Aig.val (v ++ m) a = Aig.val v a := by
 unfold Aig.val
 rw [List.getD_eq_getElem?_getD, List.getD_eq_getElem?_getD, List.getElem?_append_left h]
theorem val_turn {v : List Bool} {a : Int} (h : 0 ≤ a) : Aig.val v (turn a) = !Aig.val v a := by
 unfold Aig.val
 have e : (turn a / 2).toNat = (a / 2).toNat := by unfold turn; omega
 rw [e]
 by_cases h1 : a % 2 = 1
 ·have h2 : ¬ turn a % 2 = 1 := by unfold turn; omega
  cases v.getD (a / 2).toNat false <;> simp [h1, h2]
 ·have h2 : turn a % 2 = 1 := by unfold turn; omega
  cases v.getD (a / 2).toNat false <;> simp [h1, h2]
section
variable {s : List Bool}
theorem V_length {g : Aig} (hf : Fine g) (hb : ((s.length + 1 : Nat) : Int) = g.first) : ((Aig.vals (false :: s) g.ands).length : Int) = 1 + g.count := by
 rw [vals_length, count_first, List.length_cons]; omega
theorem V_ext {g h : Aig} (hx : Ext g h) : ∃ m, Aig.vals (false :: s) h.ands = Aig.vals (false :: s) g.ands ++ m := by
 obtain ⟨_, _, _, l, e⟩ := hx
 rw [e, vals_append]
 exact vals_prefix _ _
theorem val_ext {g h : Aig} (hf : Fine g) (hb : ((s.length + 1 : Nat) : Int) = g.first) (hx : Ext g h) {a : Int} (ha : g.lit a = true) : Aig.val (Aig.vals (false :: s) h.ands) a = Aig.val (Aig.vals (false :: s) g.ands) a := by
 obtain ⟨m, e⟩ := V_ext (s := s) hx
 rw [e, val_app]
 have := V_length hf hb
 have := litN_iff.1 ha
 omega
theorem val_zero {g : Aig} : Aig.val (Aig.vals (false :: s) g.ands) 0 = false := by
 obtain ⟨m, e⟩ := vals_prefix g.ands (false :: s)
 rw [e]; rfl
theorem val_one {g : Aig} : Aig.val (Aig.vals (false :: s) g.ands) 1 = true := by
 obtain ⟨m, e⟩ := vals_prefix g.ands (false :: s)
 rw [e]; rfl
theorem idxF_get {α : Type} (p : α → Bool) : ∀ (l : List α), 0 ≤ idxF p l → ∃ h : (idxF p l).toNat < l.length, p l[(idxF p l).toNat] = true
 | [], h => by simp [idxF] at h
 | a :: l, h => by
  by_cases hp : p a = true
  ·have e : idxF p (a :: l) = 0 := by simp [idxF, hp]
   simp [e, hp]
  ·by_cases h' : idxF p l < 0
   ·have e : idxF p (a :: l) = -1 := by simp [idxF, hp, h']
    omega
   ·have e : idxF p (a :: l) = idxF p l + 1 := by simp [idxF, hp, h']
    obtain ⟨k, hk⟩ := idxF_get p l (by omega)
    have e2 : (idxF p (a :: l)).toNat = (idxF p l).toNat + 1 := by omega
    have k2 : (idxF p (a :: l)).toNat < (a :: l).length := by rw [e2, List.length_cons]; omega
    refine ⟨k2, ?_⟩
    simp only [e2, List.getElem_cons_succ]
    exact hk
theorem gate_val {g : Aig} (hf : Fine g) (hb : ((s.length + 1 : Nat) : Int) = g.first) {i : Nat} (hi : i < g.ands.length) :
  Aig.val (Aig.vals (false :: s) g.ands) (2 * (g.first + i)) = (Aig.val (Aig.vals (false :: s) g.ands) g.ands[i].1 && Aig.val (Aig.vals (false :: s) g.ands) g.ands[i].2) := by
 have hg := gatesOk_iff.1 hf.gok i hi
 have st := vals_step (v := false :: s) hi
 have ln := vals_len (v := false :: s) (l := g.ands) (i := i) (by omega)
 have sp : g.ands = g.ands.take (i + 1) ++ g.ands.drop (i + 1) := (List.take_append_drop _ _).symm
 have sp' : g.ands = g.ands.take i ++ g.ands.drop i := (List.take_append_drop _ _).symm
 obtain ⟨m, e⟩ := vals_prefix (g.ands.drop (i + 1)) (Aig.vals (false :: s) (g.ands.take (i + 1)))
 obtain ⟨m', e'⟩ := vals_prefix (g.ands.drop i) (Aig.vals (false :: s) (g.ands.take i))
 rw [← vals_append, ← sp, st] at e
 rw [← vals_append, ← sp'] at e'
 rw [List.length_cons] at ln
 have a1 : (g.ands[i].1 / 2).toNat < (Aig.vals (false :: s) (g.ands.take i)).length := by omega
 have a2 : (g.ands[i].2 / 2).toNat < (Aig.vals (false :: s) (g.ands.take i)).length := by omega
 have q1 : Aig.val (Aig.vals (false :: s) g.ands) g.ands[i].1 = Aig.val (Aig.vals (false :: s) (g.ands.take i)) g.ands[i].1 := by rw [e', val_app a1]
 have q2 : Aig.val (Aig.vals (false :: s) g.ands) g.ands[i].2 = Aig.val (Aig.vals (false :: s) (g.ands.take i)) g.ands[i].2 := by rw [e', val_app a2]
 rw [q1, q2, e]
 have ix : (2 * (g.first + i) / 2).toNat = (Aig.vals (false :: s) (g.ands.take i)).length := by omega
 have od : ¬ (2 * (g.first + (i : Int))) % 2 = 1 := by omega
 unfold Aig.val
 rw [ix, List.getD_eq_getElem?_getD, List.append_assoc, List.getElem?_append_right (Nat.le_refl _)]
 simp [od]
theorem min_max_val {v : List Bool} {p q : Int} : (Aig.val v (min p q) && Aig.val v (max p q)) = (Aig.val v p && Aig.val v q) := by
 rcases Int.le_total p q with h | h
 ·rw [Int.min_eq_left h, Int.max_eq_right h]
 ·rw [Int.min_eq_right h, Int.max_eq_left h, Bool.and_comm]
theorem andO_val {g h : Aig} {p q x : Int} (hf : Fine g) (hb : ((s.length + 1 : Nat) : Int) = g.first) (hp : g.lit p = true) (hq : g.lit q = true) (ho : g.andO p q = some (h, x)) :
  Aig.val (Aig.vals (false :: s) h.ands) x = (Aig.val (Aig.vals (false :: s) g.ands) p && Aig.val (Aig.vals (false :: s) g.ands) q) := by
 have hp' := litN_iff.1 hp
 have hq' := litN_iff.1 hq
 rw [← min_max_val]
 unfold Aig.andO at ho
 simp only at ho
 split at ho
 ·rename_i c
  simp at ho; obtain ⟨rfl, rfl⟩ := ho
  rw [val_zero]
  rcases c with c | c
  ·rw [c, val_zero]; rfl
  ·rw [c, val_turn (by omega)]; cases Aig.val (Aig.vals (false :: s) g.ands) (max p q) <;> rfl
 ·split at ho
  ·rename_i c
   simp at ho; obtain ⟨rfl, rfl⟩ := ho
   rcases c with c | c
   ·rw [c, val_one, Bool.true_and]
   ·rw [c, Bool.and_self]
  ·split at ho
   ·rename_i c
    simp at ho; obtain ⟨rfl, rfl⟩ := ho
    obtain ⟨k, hk⟩ := idxF_get _ _ c
    have e := gate_val (s := s) hf hb k
    have e2 : (((g.find (min p q) (max p q)).toNat : Nat) : Int) = g.find (min p q) (max p q) := by omega
    have e4 : (((idxF (fun x : Int × Int => decide (min x.1 x.2 = min p q) && decide (max x.1 x.2 = max p q)) g.ands).toNat : Nat) : Int) = g.find (min p q) (max p q) := e2
    rw [e4] at e
    rw [e, ← min_max_val]
    simp only [Bool.and_eq_true, decide_eq_true_eq] at hk
    rw [hk.1, hk.2]
   ·split at ho
    ·simp at ho
    ·simp at ho; obtain ⟨rfl, rfl⟩ := ho
     have ln := V_length (s := s) hf hb
     have ix : (2 * (g.count + 1) / 2).toNat = (Aig.vals (false :: s) g.ands).length := by omega
     have od : ¬ (2 * (g.count + 1)) % 2 = 1 := by omega
     simp only [vals_snoc]
     generalize hv : (Aig.val (Aig.vals (false :: s) g.ands) (min p q) && Aig.val (Aig.vals (false :: s) g.ands) (max p q)) = w
     unfold Aig.val
     rw [ix, List.getD_eq_getElem?_getD, List.getElem?_append_right (Nat.le_refl _)]
     simp [od]
end
def Aig.value (g : Aig) (a : Int) (inp st : List Bool) : Bool := Aig.val (Aig.vals (false :: (inp ++ st)) g.ands) a
section
variable {g : Aig} {a b c : Int} {inp st : List Bool} (hs : Wf g) (l1 : (inp.length : Int) = g.ins) (l2 : st.length = g.flops.length)
include hs l1 l2
end
end Fil

namespace Fil.Eqv
open Bd (D T3 In T varW notW iteW opW askE)
structure Good (n c : Nat) (b : D) : Prop where
 vars : b.1 = n
 few : n ≤ 8
 fine : Bd.Fine n b.2
 ups : Bd.ups n 3 b.2 ≤ 31 * c
theorem Good.len {n c : Nat} {b : D} (h : Good n c b) : b.2.length ≤ 278 + 31 * c := by
 have := Bd.len_ups h.fine.toOk 3
 have := h.ups
 have := Bd.low3
 omega
theorem Good.room {n c : Nat} {b : D} (h : Good n c b) (hc : c ≤ 2000) : b.2.length + 2 ^ (b.1.toNat + 1) ≤ 65537 ∧ b.2.length + 2 ^ b.1.toNat ≤ 65537 ∧ b.2.length < 65536 ∧ b.2.length ≤ 9223372036854775807 := by
 have := h.len
 have e : b.1.toNat = n := by rw [h.vars]; simp
 rw [e]
 have hf := h.few
 have p1 : 2 ^ (n + 1) ≤ 2 ^ 9 := Nat.pow_le_pow_right (by decide) (by omega)
 have p2 : 2 ^ n ≤ 2 ^ 8 := Nat.pow_le_pow_right (by decide) (by omega)
 omega
theorem Good.mono {n c d : Nat} {b : D} (h : Good n c b) (hd : c ≤ d) : Good n d b := ⟨h.vars, h.few, h.fine, by have := h.ups; omega⟩
structure Op (n c : Nat) (b : D) (t : List Bool) (r : D × Int × Int) : Prop where
 ok : r.2.2 = 0
 good : Good n (c + 1) r.1
 inn : In n r.1.2 0 r.2.1
 tab : T r.1 r.2.1 = t
 pre : ∃ l, r.1.2 = b.2 ++ l
theorem In.len {n : Int} {F : List T3} {v x : Int} (h : In n F v x) : 0 ≤ x ∧ x < F.length := ⟨h.1, h.2.1⟩
theorem T_pre {n c : Nat} {b r : D} (h : Good n c b) (hr : r.1 = n) {l : List T3} (hl : r.2 = b.2 ++ l) {f : Int} (i : In n b.2 0 f) : T r f = T b f ∧ In n r.2 0 f := by
 obtain ⟨v, F⟩ := b
 obtain ⟨w, G⟩ := r
 obtain rfl : v = n := h.vars
 obtain rfl : w = n := hr
 simp only at hl
 subst hl
 exact ⟨Bd.T_app h.fine.toOk i, i.app l⟩
end Fil.Eqv

namespace Fil.Eqv
open Bd (D T3 In T varW notW iteW opW askE lookT)
abbrev S := D × List Int
def lits (g : Aig) : List Int := g.outs ++ g.flops.map (·.next)
structure Rep (n c : Nat) (b : D) (nodes : List Int) (w v : List Bool) : Prop where
 good : Good n c b
 wl : w.length = n
 len : nodes.length = v.length
 inn : ∀ x ∈ nodes, In n b.2 0 x
 val : ∀ i, i < nodes.length → lookT (T b (nodes.getD i 0)) w = v.getD i false
theorem mem_getD {l : List Int} {i : Nat} (h : i < l.length) : l.getD i 0 ∈ l := by
 rw [List.getD_eq_getElem?_getD, List.getElem?_eq_getElem h]; exact List.getElem_mem h
theorem Rep.more {n c d : Nat} {b r : D} {nodes : List Int} {w v : List Bool} (h : Rep n c b nodes w v) (hg : Good n d r) (hp : ∃ l, r.2 = b.2 ++ l) : Rep n d r nodes w v := by
 obtain ⟨l, hl⟩ := hp
 have key : ∀ x ∈ nodes, T r x = T b x ∧ In n r.2 0 x := fun x hx => T_pre h.good hg.vars hl (h.inn x hx)
 exact ⟨hg, h.wl, h.len, fun x hx => (key x hx).2, fun i hi => by rw [(key _ (mem_getD hi)).1]; exact h.val i hi⟩
theorem Rep.push {n c : Nat} {b : D} {nodes : List Int} {w v : List Bool} (h : Rep n c b nodes w v) {x : Int} {y : Bool} (hx : In n b.2 0 x) (hy : lookT (T b x) w = y) : Rep n c b (nodes ++ [x]) w (v ++ [y]) := by
 have hlen := h.len
 refine ⟨h.good, h.wl, by simp [hlen], fun z hz => ?_, fun i hi => ?_⟩
 ·rcases List.mem_append.1 hz with q | q
  ·exact h.inn z q
  ·simp at q; subst q; exact hx
 ·simp only [List.length_append, List.length_cons, List.length_nil] at hi
  simp only [List.getD_eq_getElem?_getD]
  by_cases c : i < nodes.length
  ·rw [List.getElem?_append_left c, List.getElem?_append_left (by omega), ← List.getD_eq_getElem?_getD, ← List.getD_eq_getElem?_getD]
   exact h.val i c
  ·have e : i = nodes.length := by omega
   subst e
   rw [List.getElem?_append_right (by omega), List.getElem?_append_right (by omega)]
   simp [hlen, hy]
end Fil.Eqv

namespace Fil.Eqv
open Abs
theorem andW_fit {g : Aig} {p q : Int} (h : g.count < 65536) : (g.andW 0 p q).2.1 = 0 := by
 have hn : g.andO p q ≠ none := by
  unfold Aig.andO
  simp only
  split
  ·simp
  ·split
   ·simp
   ·split
    ·simp
    ·split
     ·omega
     ·simp
 unfold Aig.andW
 rw [if_neg (by simp)]
 cases ho : g.andO p q with
 | none => exact absurd ho hn
 | some r => rfl
theorem And_fit {g : Aig} {a b : Int} (hc : g.check = 0) (ha : g.lit a = true) (hb : g.lit b = true) (h : g.count < 65536) : (g.And a b).2.2 = 0 := by
 unfold Aig.And
 rw [checkL_two hc ha hb]
 have := andW_fit (p := a) (q := b) h
 unfold Aig.endW
 rw [if_neg (by simp [this])]
def moveL (to : List Int) (l : Int) : Int := if l % 2 = 0 then to.getD (l / 2).toNat 0 else turn (to.getD (l / 2).toNat 0)
def m0 (g : Aig) : Aig := ⟨g.ins, List.replicate g.flops.length ⟨0, false⟩, g.ands, []⟩
structure MI (g : Aig) (N : Nat) (m : Aig) : Prop where
 small : g.ins + g.flops.length ≤ 8
 check : m.check = 0
 fine : Fine m
 ext : Ext (m0 g) m
 len : m.ands.length ≤ N
theorem MI.count {g m : Aig} {N : Nat} (h : MI g N m) : m.count ≤ 8 + N := by
 have h1 := h.small
 have h2 := h.len
 unfold Aig.count
 rw [h.ext.ins, h.ext.flops]
 simp only [m0, List.length_replicate]; omega
theorem MI.first {g m : Aig} {N : Nat} (h : MI g N m) : m.first = g.first := by
 unfold Aig.first
 rw [h.ext.ins, h.ext.flops]; simp [m0]
abbrev at_ (m : Aig) (s : List Bool) (a : Int) : Bool := Aig.val (Aig.vals (false :: s) m.ands) a
end Fil.Eqv

namespace Fil.Rw
open Abs
open Eqv (moveL)
structure B where
 g : Aig
 lits : List Int
 lev : List Int
def evens (n : Nat) : List Int := (List.range n).map fun k : Nat => 2 * (k : Int)
def bit (v : Bool) : Int := if v then 1 else 0
def bgAt (g : Aig) (s : Nat → Option Bool) : Nat → List Int × List Flop
 | 0 => (evens (1 + g.ins).toNat, [])
 | i + 1 => match s i with
  | some v => ((bgAt g s i).1 ++ [bit v], (bgAt g s i).2)
  | none => ((bgAt g s i).1 ++ [2 * (g.ins + ((bgAt g s i).2.length + 1 : Nat))], (bgAt g s i).2 ++ [⟨0, (g.flops.getD i ⟨0, false⟩).init⟩])
def bgn (g : Aig) (s : Nat → Option Bool) : B :=
 ⟨⟨g.ins, (bgAt g s g.flops.length).2, [], []⟩, (bgAt g s g.flops.length).1, List.replicate (1 + g.ins + (bgAt g s g.flops.length).2.length).toNat 0⟩
def andB (b : B) (x y : Int) : B × Int :=
 (⟨(b.g.And x y).1, b.lits, if b.g.ands.length < (b.g.And x y).1.ands.length then b.lev ++ [1 + max (b.lev.getD (x / 2).toNat 0) (b.lev.getD (y / 2).toNat 0)] else b.lev⟩, (b.g.And x y).2.1)
def nextsAt (g : Aig) (s : Nat → Option Bool) (lits : List Int) : Nat → List Flop
 | 0 => []
 | i + 1 => match s i with
  | some _ => nextsAt g s lits i
  | none => nextsAt g s lits i ++ [⟨moveL lits (g.flops.getD i ⟨0, false⟩).next, (g.flops.getD i ⟨0, false⟩).init⟩]
def endB (g : Aig) (s : Nat → Option Bool) (b : B) : Aig := { b.g with flops := nextsAt g s b.lits g.flops.length, outs := b.g.outs ++ g.outs.map (moveL b.lits) }
def hashAt (g : Aig) (s : Nat → Option Bool) : Nat → B
 | 0 => bgn g s
 | i + 1 =>
  let b := hashAt g s i
  let x := g.ands.getD i (0, 0)
  let r := andB b (moveL b.lits x.1) (moveL b.lits x.2)
  { r.1 with lits := b.lits ++ [r.2] }
def hashed (g : Aig) (s : Nat → Option Bool) : Aig := endB g s (hashAt g s g.ands.length)
end Fil.Rw

namespace Abs
open Go
def frzB (o n : Nat) (l : List AV) (a b : AV) : Prop := b = .vec o n ∧ (a = .slice l (.own o) ∨ a = .slice l .no)
theorem frzB_plain (o n : Nat) (l : List AV) : PlainB (frzB o n l) := fun a b ⟨h1, h2⟩ => by
 subst h1
 rcases h2 with rfl | rfl <;> exact ⟨rfl, rfl⟩
theorem view_frz {σ : Sig} {o sz n : Nat} {cs l : List AV} (h : σ o = some (.vec sz n cs)) (hf : flat l = cs) (hl : l.length = n) (hall : ∀ x ∈ l, (cellsA x).length = sz) :
  View (Lift (frzB o n l)) (upd σ o (.grow sz n)) σ := fun S K w hS hs => by
 obtain ⟨e0, h1, h2⟩ := hs.live o _ h
 cases e0 <;> simp only [ObjSat] at h2
 rename_i b cap sz' n'
 obtain ⟨rfl, rfl, h3⟩ := h2
 obtain ⟨K', k1, k2, k3⟩ := hs.freeze h h1 hf hl hall S
 refine ⟨K', k1, k3, fun a0 a v hab hr => ?_⟩
 refine Rel.lift (frzB_plain o _ l) k1.le (fun x y v ⟨e1, e2⟩ hr => ?_) hab hr
 subst e1
 obtain ⟨b', cap', rfl, hown, _⟩ := vec_at hs h hr
 rw [h1] at hown
 simp only [Option.some.injEq, Own.vec.injEq] at hown
 obtain ⟨rfl, rfl, _, _⟩ := hown
 rcases e2 with rfl | rfl
 ·exact k2
 ·exact Rel.lift (nilB_plain (fun _ => none)) (Gh.le.refl K') (fun a b v ⟨o, sz, _, _, h3⟩ hr => by simp at h3) (.slice l l .no (.own o) (.inl rfl) rfl fun i _ _ => .refl _) k2
theorem flat_map_len {α : Type} (e : α → AV) (sz : Nat) (he : ∀ x, (cellsA (e x)).length = sz) : ∀ l : List α, (flat (l.map e)).length = l.length * sz
 | [] => by simp [flat]
 | x :: l => by
  have := flat_map_len e sz he l
  simp only [List.map_cons, flat_cons, List.length_append, he, this, List.length_cons]
  rw [Nat.succ_mul]; omega
theorem flat_get {α : Type} (e : α → AV) (sz : Nat) (he : ∀ x, (cellsA (e x)).length = sz) : ∀ (l : List α) (i k : Nat), (hi : i < l.length) → k < sz → (flat (l.map e))[i * sz + k]? = (cellsA (e l[i]))[k]?
 | x :: l, 0, k, _, hk => by
  simp only [List.map_cons, flat_cons, Nat.zero_mul, Nat.zero_add, List.getElem_cons_zero]
  rw [List.getElem?_append_left (by rw [he]; exact hk)]
 | x :: l, i + 1, k, hi, hk => by
  have := flat_get e sz he l i k (by simpa using hi) hk
  simp only [List.map_cons, flat_cons, List.getElem_cons_succ]
  rw [List.getElem?_append_right (by rw [he, Nat.succ_mul]; omega), he, Nat.succ_mul]
  rw [show i * sz + sz + k - sz = i * sz + k by omega]
  exact this
theorem flat_set {α : Type} (e : α → AV) (sz : Nat) (he : ∀ x, (cellsA (e x)).length = sz) (y : α) : ∀ (l : List α) (i : Nat), i < l.length → putAt (flat (l.map e)) (i * sz) (cellsA (e y)) = flat ((l.set i y).map e)
 | x :: l, 0, _ => by
  simp only [List.map_cons, flat_cons, Nat.zero_mul, List.set_cons_zero, putAt, List.take_zero, List.nil_append, Nat.zero_add]
  rw [he, List.drop_append_of_le_length (by rw [he]; exact Nat.le_refl _), List.drop_eq_nil_of_le (by rw [he]; exact Nat.le_refl _), List.nil_append]
 | x :: l, i + 1, h => by
  have ih := flat_set e sz he y l i (by simpa using h)
  simp only [List.map_cons, flat_cons, List.set_cons_succ]
  rw [← ih]
  have hx := he x
  unfold putAt
  rw [Nat.succ_mul, Nat.add_comm (i * sz) sz, List.take_append, List.take_of_length_le (by omega), hx, Nat.add_sub_cancel_left]
  have hd : List.drop (sz + i * sz + (cellsA (e y)).length) (cellsA (e x)) = [] := List.drop_eq_nil_of_le (by omega)
  rw [List.drop_append, hd, hx, List.nil_append, show sz + i * sz + (cellsA (e y)).length - sz = i * sz + (cellsA (e y)).length by omega]
  simp only [List.append_assoc]
theorem fin_frz {R : ARes → Sig → Prop} {v v0 v1 : AV} {σ τ : Sig} (o : Nat) {sz n : Nat} {cs l : List AV} (h : σ o = some (.vec sz n cs)) (hf : flat l = cs) (hl : l.length = n) (hall : ∀ x ∈ l, (cellsA x).length = sz)
  (hv : Lift (frzB o n l) v1 v) (hv0 : FL (upd σ o (.grow sz n)) v0 v1) (hs : SubX [] τ (upd σ o (.grow sz n))) (hR : R (.ret v0) τ) : fin R v σ :=
 ⟨v0, τ, Vr.comp (vr_of hv0 hs) ⟨_, view_frz h hf hl hall, hv⟩, hR⟩
theorem subx_of {τ σ : Sig} (h : ∀ q x, τ q = some x → σ q = some x) : SubX [] τ σ := fun q _ x e => ⟨x, h q x e, .refl _ x⟩

/-! ### A call that makes four objects -/
structure Fr4 (σ : Sig) (a b c d : Nat) : Prop where
 ha : σ a = none
 hb : σ b = none
 hc : σ c = none
 hd : σ d = none
 ab : ¬ a = b
 ba : ¬ b = a
 ac : ¬ a = c
 ca : ¬ c = a
 ad : ¬ a = d
 da : ¬ d = a
 bc : ¬ b = c
 cb : ¬ c = b
 bd : ¬ b = d
 db : ¬ d = b
 cd : ¬ c = d
 dc : ¬ d = c
theorem Fr4.old {σ : Sig} {a b c d : Nat} (h : Fr4 σ a b c d) : ∀ o, ¬ σ o = none → ¬ o = a ∧ ¬ a = o ∧ ¬ o = b ∧ ¬ b = o ∧ ¬ o = c ∧ ¬ c = o ∧ ¬ o = d ∧ ¬ d = o := fun o ho =>
 ⟨fun e => ho (e ▸ h.ha), fun e => ho (e ▸ h.ha), fun e => ho (e ▸ h.hb), fun e => ho (e ▸ h.hb), fun e => ho (e ▸ h.hc), fun e => ho (e ▸ h.hc), fun e => ho (e ▸ h.hd), fun e => ho (e ▸ h.hd)⟩
def New4 (σ : Sig) (v : Nat → AV) (S : Nat → Nat → Nat → Nat → Sig) : ARes → Sig → Prop := fun r s => ∃ a b c d, Fr4 σ a b c d ∧ r = .ret (v a) ∧ s = S a b c d
theorem ACalls.new4 {P : Program} {f : FuncId} {args : List AV} {σ : Sig} {v : Nat → AV} {S : Nat → Nat → Nat → Nat → Sig} {R : ARes → Sig → Prop} (h : ACalls P f args σ (New4 σ v S))
  (hR : ∀ a b c d, Fr4 σ a b c d → R (.ret (v a)) (S a b c d)) : ACalls P f args σ R :=
 h.mono fun r s ⟨a, b, c, d, k, e1, e2⟩ => by
  subst e1 e2
  exact hR a b c d k
theorem fin_new4 {σ σ' : Sig} {v : Nat → AV} {S : Nat → Nat → Nat → Nat → Sig} {w : AV} (a b c d : Nat) (hf : Fr4 σ a b c d) (h : FL σ' (v a) w ∧ SubX [] (S a b c d) σ') : fin (New4 σ v S) w σ' := fin_v (v a) (S a b c d) ⟨a, b, c, d, hf, rfl, rfl⟩ h.1 h.2
end Abs

