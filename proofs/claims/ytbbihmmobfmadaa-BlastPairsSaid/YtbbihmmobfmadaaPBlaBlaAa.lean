/- blast: THE STAGE'S THEOREM: what is made of two words is what is done with their values. -/
import Derived.Test.YtbbihmmobfmadaaPBlaBlaU
set_option linter.unusedSimpArgs false
set_option linter.unusedVariables false
namespace Abs
open Go
inductive Sh where
  | bool
  | int (k : IntKind)
  | str
  | slice (agg : Bool) (e : Sh)
  | row (l : List Sh)
def shAll (f : TypeId → Option Sh) : List TypeId → Option (List Sh)
  | [] => some []
  | t :: ts => match f t, shAll f ts with
    | some s, some l => some (s :: l)
    | _, _ => none
def shOf (P : Program) : Nat → TypeId → Option Sh
  | 0, _ => none
  | g + 1, t =>
    match P.underlying t with
    | some .bool => some .bool
    | some (.int k) => some (.int k)
    | some .string => some .str
    | some (.slice e) => (shOf P g e).map (.slice (isAgg P e))
    | some (.struct fs) => (shAll (shOf P g) (fs.toList.map (·.type))).map .row
    | some (.array n e) => (shAll (shOf P g) (List.replicate n e)).map .row
    | _ => none
mutual
def ShC : Sh → List AV → Prop
  | .bool, cs => ∃ b, cs = [.bool b]
  | .int k, cs => ∃ n, cs = [.int k n] ∧ k.min ≤ n ∧ n ≤ k.max
  | .str, cs => ∃ s : ByteArray, cs = [.str s] ∧ s.size ≤ maxLen
  | .slice b e, cs => ∃ l, cs = [.slice l .no] ∧ l.length ≤ maxLen ∧ ∀ x ∈ l, ∃ es, mkv b es = some x ∧ ShC e es
  | .row l, cs => ShL l cs
def ShL : List Sh → List AV → Prop
  | [], cs => cs = []
  | s :: l, cs => ∃ p q, cs = p ++ q ∧ ShC s p ∧ ShL l q
end
theorem cells_sh {P : Program} : ∀ (g : Nat) (t : TypeId) (s : Sh) (cs : List AV), shOf P g t = some s → Cells P g t cs → ShC s cs
  | 0, _, _, _, h, _ => by simp [shOf] at h
  | g + 1, t, s, cs, h, hc => by
    have all : ∀ (ts : List TypeId) (l : List Sh) (cs : List AV), shAll (shOf P g) ts = some l → CellsL (Cells P g) ts cs → ShL l cs := by
      intro ts
      induction ts with
      | nil => intro l cs h hc; simp [shAll] at h; subst h; simpa [ShL, CellsL] using hc
      | cons t ts ih =>
        intro l cs h hc
        simp only [shAll] at h
        split at h <;> simp at h
        rename_i s' l' h1 h2
        subst h
        obtain ⟨p, q, e, c1, c2⟩ := hc
        exact ⟨p, q, e, cells_sh g t s' p h1 c1, ih l' q h2 c2⟩
    simp only [shOf] at h
    simp only [Cells] at hc
    split at h
    · rename_i hu; rw [hu] at hc; simp at h; subst h; exact hc
    · rename_i k hu; rw [hu] at hc; simp at h; subst h; exact hc
    · rename_i hu; rw [hu] at hc; simp at h; subst h; exact hc
    · rename_i e hu
      rw [hu] at hc
      simp only [Option.map_eq_some_iff] at h
      obtain ⟨s', h1, rfl⟩ := h
      obtain ⟨l, e1, e2, e3⟩ := hc
      refine ⟨l, e1, e2, fun x hx => ?_⟩
      obtain ⟨es, k1, k2⟩ := e3 x hx
      exact ⟨es, k1, cells_sh g e s' es h1 k2⟩
    · rename_i fs hu
      rw [hu] at hc
      simp only [Option.map_eq_some_iff] at h
      obtain ⟨l, h1, rfl⟩ := h
      exact all _ l cs h1 hc
    · rename_i n e hu
      rw [hu] at hc
      simp only [Option.map_eq_some_iff] at h
      obtain ⟨l, h1, rfl⟩ := h
      exact all _ l cs h1 hc
    · simp at h
def ShV (b : Bool) (s : Sh) (a : AV) : Prop := ∃ es, mkv b es = some a ∧ ShC s es
def ShVs : List (Bool × Sh) → List AV → Prop
  | [], as_ => as_ = []
  | p :: l, as_ => ∃ a r, as_ = a :: r ∧ ShV p.1 p.2 a ∧ ShVs l r
def argSh (P : Program) (g : Nat) : List TypeId → Option (List (Bool × Sh))
  | [] => some []
  | t :: ts => match shOf P g t, argSh P g ts with
    | some s, some l => some ((isAgg P t, s) :: l)
    | _, _ => none
theorem args_sh {P : Program} {g : Nat} : ∀ {ts : List TypeId} {l : List (Bool × Sh)} {as_ : List AV}, argSh P g ts = some l → ArgsAre P g ts as_ → ShVs l as_
  | [], l, [], h, _ => by simp [argSh] at h; subst h; rfl
  | [], _, _ :: _, _, ha => ha.elim
  | t :: ts, _, [], _, ha => ha.elim
  | t :: ts, l, a :: as_, h, ha => by
    simp only [argSh] at h
    split at h <;> simp at h
    rename_i s l' h1 h2
    subst h
    obtain ⟨⟨es, k1, k2⟩, k3⟩ := ha
    exact ⟨a, as_, rfl, ⟨es, k1, cells_sh g t s es h1 k2⟩, args_sh h2 k3⟩
theorem list_dec {α : Type} {f : α → AV} {p : α → Prop} : ∀ {l : List AV}, (∀ x ∈ l, ∃ y, x = f y ∧ p y) → ∃ m : List α, l = m.map f ∧ ∀ y ∈ m, p y
  | [], _ => ⟨[], rfl, by simp⟩
  | x :: l, h => by
    obtain ⟨y, e, hy⟩ := h x (by simp)
    obtain ⟨m, e', hm⟩ := list_dec (l := l) fun x hx => h x (by simp [hx])
    exact ⟨y :: m, by simp [e, e'], by simpa using ⟨hy, hm⟩⟩
theorem shv_int {k : IntKind} {a : AV} (h : ShV false (.int k) a) : ∃ n, a = .int k n ∧ k.min ≤ n ∧ n ≤ k.max := by
  obtain ⟨es, h1, n, rfl, h2⟩ := h
  simp [mkv] at h1
  exact ⟨n, h1.symm, h2⟩
theorem shv_bool {a : AV} (h : ShV false .bool a) : ∃ b, a = .bool b := by
  obtain ⟨es, h1, b, rfl⟩ := h
  simp [mkv] at h1
  exact ⟨b, h1.symm⟩
theorem shv_slice {b : Bool} {e : Sh} {a : AV} (h : ShV false (.slice b e) a) {α : Type} {f : α → AV} {p : α → Prop} (hd : ∀ x, ShV b e x → ∃ y, x = f y ∧ p y) : ∃ m : List α, a = .slice (m.map f) .no ∧ m.length ≤ maxLen ∧ ∀ y ∈ m, p y := by
  obtain ⟨es, h1, l, rfl, h2, h3⟩ := h
  simp [mkv] at h1
  obtain ⟨m, rfl, hm⟩ := list_dec (f := f) (p := p) (l := l) fun x hx => hd x (h3 x hx)
  exact ⟨m, h1.symm, by simpa using h2, hm⟩
theorem shc_slice {b : Bool} {e : Sh} {cs : List AV} (h : ShC (.slice b e) cs) {α : Type} {f : α → AV} {p : α → Prop} (hd : ∀ x, ShV b e x → ∃ y, x = f y ∧ p y) : ∃ m : List α, cs = [.slice (m.map f) .no] ∧ m.length ≤ maxLen ∧ ∀ y ∈ m, p y := by
  obtain ⟨l, rfl, h2, h3⟩ := h
  obtain ⟨m, rfl, hm⟩ := list_dec (f := f) (p := p) (l := l) fun x hx => hd x (h3 x hx)
  exact ⟨m, rfl, by simpa using h2, hm⟩
end Abs

namespace Fil
open Abs Go
theorem i64_min : IntKind.i64.min = -9223372036854775808 := by decide
theorem i64_max : IntKind.i64.max = 9223372036854775807 := by decide
theorem I64_of {n : Int} (h : IntKind.i64.min ≤ n ∧ n ≤ IntKind.i64.max) : I64 n := by rw [i64_min, i64_max] at h; exact h
theorem arg_int {a : AV} (h : ShV false (.int .i64) a) : ∃ n, a = encInt n ∧ I64 n := by
  obtain ⟨n, e, hn⟩ := shv_int h
  exact ⟨n, e, I64_of hn⟩
theorem arg_bool {a : AV} (h : ShV false .bool a) : ∃ b, a = encBool b ∧ True := by
  obtain ⟨b, e⟩ := shv_bool h
  exact ⟨b, e, trivial⟩
theorem arg_bools {a : AV} (h : ShV false (.slice false .bool) a) : ∃ l : List Bool, a = .slice (l.map encBool) .no ∧ l.length ≤ maxLen := by
  obtain ⟨m, e, h1, _⟩ := shv_slice (f := encBool) (p := fun _ => True) h fun x hx => arg_bool hx
  exact ⟨m, e, h1⟩
theorem arg_gate {a : AV} (h : ShV true (.row [.int .i64, .int .i64]) a) : ∃ x : Int × Int, a = encGate x ∧ I64 x.1 ∧ I64 x.2 := by
  obtain ⟨es, e, p, q, rfl, ⟨n, rfl, hn⟩, p', q', rfl, ⟨m, rfl, hm⟩, rfl⟩ := h
  simp [mkv] at e
  exact ⟨(n, m), e.symm, I64_of hn, I64_of hm⟩
theorem arg_flop {a : AV} (h : ShV true (.row [.int .i64, .bool]) a) : ∃ x : Flop, a = encFlop x ∧ I64 x.next := by
  obtain ⟨es, e, p, q, rfl, ⟨n, rfl, hn⟩, p', q', rfl, ⟨m, rfl⟩, rfl⟩ := h
  simp [mkv] at e
  exact ⟨⟨n, m⟩, e.symm, I64_of hn⟩
structure Wide (g : Aig) : Prop where
  ins : I64 g.ins
  nexts : ∀ f ∈ g.flops, I64 f.next
  gates : ∀ x ∈ g.ands, I64 x.1 ∧ I64 x.2
  lits : ∀ a ∈ g.outs, I64 a
theorem arg_aig {a : AV} (h : ShV true (.row [.int .i64, .slice true (.row [.int .i64, .bool]), .slice true (.row [.int .i64, .int .i64]), .slice false (.int .i64)]) a) : ∃ g : Aig, a = encAig g ∧ Wide g := by
  obtain ⟨es, e, p, q, rfl, ⟨n, rfl, hn⟩, p1, q1, rfl, h1, p2, q2, rfl, h2, p3, q3, rfl, h3, rfl⟩ := h
  obtain ⟨fl, rfl, _, k1⟩ := shc_slice (f := encFlop) (p := fun x : Flop => I64 x.next) h1 fun x hx => arg_flop hx
  obtain ⟨an, rfl, _, k2⟩ := shc_slice (f := encGate) (p := fun x : Int × Int => I64 x.1 ∧ I64 x.2) h2 fun x hx => arg_gate hx
  obtain ⟨ou, rfl, _, k3⟩ := shc_slice (f := encInt) (p := I64) h3 fun x hx => arg_int hx
  simp [mkv] at e
  exact ⟨⟨n, fl, an, ou⟩, e.symm, I64_of hn, k1, k2, k3⟩
def Few (g : Aig) : Prop := g.ins ≤ 200 ∧ g.flops.length ≤ 200 ∧ g.ands.length ≤ 1000 ∧ g.outs.length ≤ 200
theorem few_wf {g : Aig} (h : Wide g) (hf : Few g) : Wf g :=
  ⟨h.ins, by have := hf.2.1; omega, by have := hf.2.2.1; omega, by have := hf.2.2.2; omega, h.nexts, h.gates, h.lits⟩
end Fil

namespace Go.Proofs.Ytbbihmmobfmadaa
open Abs Fil Fil.Bl A
def fewG (g : Aig) : Bool := decide (g.ins ≤ 40) && decide (g.flops.length ≤ 20) && decide (g.ands.length ≤ 80) && decide (g.outs.length ≤ 60)
theorem bl_few (g : Aig) (ls : List (List Int)) (t : Tok) (σ : Sig) (hl : ls.length ≤ 1000) :
    ACalls Try.prog 8 [encAig g, .slice (ls.map fun l => encW l .no) t] σ (fun r σ' => r = .ret (.bool ((ls.all fun l => decide (l.length ≤ 8)) && fewG g)) ∧ σ' = σ) := by
  refine calls_x mixed Try.func8 b8 n8 rfl q8 (by simp) ?_; unfold c8 r8
  repeat' (first | simp (maxDischargeDepth := 9) -implicitDefEqProofs -dsimp only [go_sem, seval, *] | simp (disch := omega) only [wrap64])
  refine loop_rule (fun i : Nat => [(5, some (.int .i64 i)), (1, some (.slice (ls.map fun l => encW l .no) t)), (2, some (.cptr (aigL g)))]) (fun _ => σ) (fun i => i ≤ ls.length ∧ (ls.take i).all (fun l => decide (l.length ≤ 8)) = true) (fun i => ls.length - i) 0 ?_ ?_
  · (repeat' (first | simp (maxDischargeDepth := 9) -implicitDefEqProofs -dsimp only [go_sem, seval, List.take_zero, List.all_nil, *] | simp (disch := omega) only [wrap64])) <;> (repeat' refine And.intro ?_ ?_) <;> (first | omega | rfl | assumption | skip)
  rintro i ⟨hi, hall⟩
  by_cases hlt : i < ls.length
  · have hgx : (ls.map fun l => encW l .no)[i]? = some (encW ls[i] .no) := by simp [hlt]
    have htk : ls.take (i + 1) = ls.take i ++ [ls[i]] := by rw [List.take_add_one]; simp [hlt]
    have hmem : ls[i] ∈ ls := List.getElem_mem _
    obtain ⟨x, hx⟩ : ∃ x, ls[i] = x := ⟨_, rfl⟩
    rw [hx] at hgx htk hmem
    clear hx
    by_cases h8 : (8 : Int) < (x.length : Int)
    · have hf : (ls.all fun l => decide (l.length ≤ 8)) = false := by
        rw [List.all_eq_false]
        exact ⟨x, hmem, by simp; omega⟩
      rw [hf, Bool.false_and]
      clear hf htk hall hmem
      repeat' (first | simp (maxDischargeDepth := 9) -implicitDefEqProofs -dsimp only [go_sem, seval, gt_iff_lt, List.length_map, *] | simp (disch := omega) only [wrap64])
      refine fin_eq ?_
      (repeat' (first | simp (maxDischargeDepth := 9) -implicitDefEqProofs -dsimp only [go_sem, seval, *] | simp (disch := omega) only [wrap64])) <;> (repeat' refine And.intro ?_ ?_) <;> (first | omega | rfl | assumption | skip)
    · have hall2 : (ls.take (i + 1)).all (fun l => decide (l.length ≤ 8)) = true := by
        rw [htk, List.all_append, hall]; simp; omega
      clear htk hall hmem
      repeat' (first | simp (maxDischargeDepth := 9) -implicitDefEqProofs -dsimp only [go_sem, seval, gt_iff_lt, List.length_map, *] | simp (disch := omega) only [wrap64])
      refine loop_next _ _ _ _ (i + 1) ?_; (repeat' (first | simp (maxDischargeDepth := 9) -implicitDefEqProofs -dsimp only [go_sem, seval,  hall2, *] | simp (disch := omega) only [wrap64])) <;> (repeat' refine And.intro ?_ ?_) <;> (first | omega | rfl | assumption | skip)
  · have : i = ls.length := by omega
    subst this
    rw [List.take_length] at hall
    rw [hall, Bool.true_and]
    have hM : fewG g = (decide (g.ins ≤ 40) && decide (g.flops.length ≤ 20) && decide (g.ands.length ≤ 80) && decide (g.outs.length ≤ 60)) := rfl
    obtain ⟨M, hMM⟩ : ∃ M, fewG g = M := ⟨_, rfl⟩
    rw [hMM] at hM ⊢
    clear hMM hall
    by_cases h1 : g.ins ≤ 40
    case neg =>
      have e : M = false := by rw [hM]; simp [h1]
      subst e
      clear hM
      repeat' (first | simp (maxDischargeDepth := 9) -implicitDefEqProofs -dsimp only [go_sem, seval, List.length_map, *] | simp (disch := omega) only [wrap64])
      refine fin_eq ?_
      (repeat' (first | simp (maxDischargeDepth := 9) -implicitDefEqProofs -dsimp only [go_sem, seval, *] | simp (disch := omega) only [wrap64])) <;> (repeat' refine And.intro ?_ ?_) <;> (first | omega | rfl | assumption | skip)
    by_cases h2 : (g.flops.length : Int) ≤ 20
    case neg =>
      have e : M = false := by rw [hM, show decide (g.flops.length ≤ 20) = false by rw [decide_eq_false_iff_not]; omega]; simp
      subst e
      clear hM
      repeat' (first | simp (maxDischargeDepth := 9) -implicitDefEqProofs -dsimp only [go_sem, seval, List.length_map, *] | simp (disch := omega) only [wrap64])
      refine fin_eq ?_
      (repeat' (first | simp (maxDischargeDepth := 9) -implicitDefEqProofs -dsimp only [go_sem, seval, *] | simp (disch := omega) only [wrap64])) <;> (repeat' refine And.intro ?_ ?_) <;> (first | omega | rfl | assumption | skip)
    by_cases h3 : (g.ands.length : Int) ≤ 80
    case neg =>
      have e : M = false := by rw [hM, show decide (g.ands.length ≤ 80) = false by rw [decide_eq_false_iff_not]; omega]; simp
      subst e
      clear hM
      repeat' (first | simp (maxDischargeDepth := 9) -implicitDefEqProofs -dsimp only [go_sem, seval, List.length_map, *] | simp (disch := omega) only [wrap64])
      refine fin_eq ?_
      (repeat' (first | simp (maxDischargeDepth := 9) -implicitDefEqProofs -dsimp only [go_sem, seval, *] | simp (disch := omega) only [wrap64])) <;> (repeat' refine And.intro ?_ ?_) <;> (first | omega | rfl | assumption | skip)
    have e : M = decide ((g.outs.length : Int) ≤ 60) := by
      rw [hM, show decide (g.ins ≤ 40) = true by simpa using h1, show decide (g.flops.length ≤ 20) = true by rw [decide_eq_true_iff]; omega, show decide (g.ands.length ≤ 80) = true by rw [decide_eq_true_iff]; omega]
      simp only [Bool.true_and]
      rw [Bool.eq_iff_iff, decide_eq_true_iff, decide_eq_true_iff]; omega
    subst e
    clear hM
    repeat' (first | simp (maxDischargeDepth := 9) -implicitDefEqProofs -dsimp only [go_sem, seval, List.length_map, *] | simp (disch := omega) only [wrap64])
    refine fin_eq ?_
    (repeat' (first | simp (maxDischargeDepth := 9) -implicitDefEqProofs -dsimp only [go_sem, seval, *] | simp (disch := omega) only [wrap64])) <;> (repeat' refine And.intro ?_ ?_) <;> (first | omega | rfl | assumption | skip)
theorem few_of {g : Aig} (h : fewG g = true) : Few g := by
  unfold fewG at h
  simp only [Bool.and_eq_true, decide_eq_true_eq] at h
  exact ⟨by omega, by omega, by omega, by omega⟩
theorem few2 (g : Aig) (a b : List Int) (τ : Sig) : ACalls Try.prog 8 [encAig g, .slice [encW a .no, encW b .no] .full] τ (fun r σ' => r = .ret (.bool (decide (a.length ≤ 8) && decide (b.length ≤ 8) && fewG g)) ∧ σ' = τ) := by
  have h := bl_few g [a, b] .full τ (by simp)
  rw [show ([a, b].all fun l => decide (l.length ≤ 8)) = (decide (a.length ≤ 8) && decide (b.length ≤ 8)) by simp] at h
  exact h
end Go.Proofs.Ytbbihmmobfmadaa

namespace Fil.Bl
open Abs
theorem binN_pos (op : Int) {w : Nat} (a b : Nat) (h : 1 ≤ w) : 1 ≤ (binN op w a b).1 := by
  have key : ∀ {c : Prop} [Decidable c] {x y : Nat × Nat}, 1 ≤ x.1 → 1 ≤ y.1 → 1 ≤ (if c then x else y).1 := by
    intro c _ x y h1 h2
    split <;> assumption
  unfold binN
  repeat' (first | exact h | exact Nat.le_refl 1 | refine key ?_ ?_)
end Fil.Bl

namespace Fil.Bl
open Abs
theorem pair_law {g : Aig} {op : Int} {a b : List Int} (inp st : List Bool) (hs : Wf g) (h : (Bin g op a b).2.2 = 0) (ha : a.length ≤ 8) (hb : b.length ≤ 8) (hi : (inp.length : Int) = g.ins) (ht : st.length = g.flops.length) :
    Ok (Bin g op a b).1 ∧ Fil.Ext g (Bin g op a b).1 ∧ (Bin g op a b).1.ands.length ≤ g.ands.length + 1300 ∧ word (Bin g op a b).1 (Bin g op a b).2.1 = true ∧ word (Bin g op a b).1 a = true ∧ word (Bin g op a b).1 b = true ∧
      (11 ≤ op ∧ op ≤ 26 ∧ (op = 17 ∨ op = 18 ∨ (a.length = b.length ∧ (op < 25 ∨ a.length = 1)))) ∧ (Bin g op a b).2.1.length ≤ 9 ∧
      ((Bin g op a b).2.1.length, toN ((Bin g op a b).2.1.map fun z => (Bin g op a b).1.value z inp st)) = binN op a.length (toN (a.map fun z => (Bin g op a b).1.value z inp st)) (toN (b.map fun z => (Bin g op a b).1.value z inp st)) := by
  obtain ⟨h0, hm, he, hr⟩ := made_ok h
  have hr : Bin g op a b = (((binP op a b).run ⟨g, 0⟩).2.g, ((binP op a b).run ⟨g, 0⟩).1, 0) := hr
  rw [hr]
  obtain ⟨k1, k2⟩ := run_ok (binP op a b) ⟨g, 0⟩ hs ⟨hs, h0⟩ he
  have hm' := hm
  unfold mayBin at hm'
  simp only [Bool.and_eq_true, decide_eq_true_eq] at hm'
  have hm2 := hm'
  unfold word at hm2
  simp only [Bool.and_eq_true, decide_eq_true_eq, List.all_eq_true] at hm2
  obtain ⟨⟨⟨⟨a1, a2⟩, a3⟩, ⟨b1, b2⟩, b3⟩, c1⟩ := hm2
  have hww : ∀ {l : List Int}, (∀ x ∈ l, g.lit x = true) → Ws (fun z => ((binP op a b).run ⟨g, 0⟩).2.g.lit z = true) l := fun {l} hl x hx => k2.lit (hl x hx)
  obtain ⟨n, hn, hle⟩ := run_sem (inp := inp) (st := st) (binP op a b) ⟨g, 0⟩ _ hs hi ht he (.refl _)
    (bin_wp (lits_of k1 _ _) (hww a3) (hww b3) ⟨by omega, by omega⟩ (by omega) (by omega))
  have h1 : a.length * b.length ≤ 8 * 8 := Nat.mul_le_mul ha hb
  have h2 : 6 * a.length * b.length = 6 * (a.length * b.length) := Nat.mul_assoc _ _ _
  have h3 := hn.1
  rw [h2] at h3
  have hle : ((binP op a b).run ⟨g, 0⟩).2.g.ands.length ≤ g.ands.length + 3 * n := hle
  have hfst := congrArg Prod.fst hn.2.2
  simp only at hfst
  have hf1 := binN_fst op a.length (toN (a.map fun z => ((binP op a b).run ⟨g, 0⟩).2.g.value z inp st)) (toN (b.map fun z => ((binP op a b).run ⟨g, 0⟩).2.g.value z inp st))
  have hf2 : 1 ≤ ((binP op a b).run ⟨g, 0⟩).1.length := by
    rw [hfst]
    exact binN_pos op _ _ a1
  refine ⟨k1, k2, by show ((binP op a b).run ⟨g, 0⟩).2.g.ands.length ≤ _; omega, ?_, word_ext k2 hm'.1.1, word_ext k2 hm'.1.2, c1, by show ((binP op a b).run ⟨g, 0⟩).1.length ≤ 9; omega, hn.2.2⟩
  unfold word
  simp only [Bool.and_eq_true, decide_eq_true_eq, List.all_eq_true]
  exact ⟨⟨by omega, by omega⟩, hn.2.1⟩
end Fil.Bl

namespace Go.Proofs.Ytbbihmmobfmadaa
open Abs Fil Fil.Bl A
theorem word_vals {g : Aig} {a : List Int} {inp st : List Bool} (ho : Ok g) (hw : word g a = true) (hi : (inp.length : Int) = g.ins) (ht : st.length = g.flops.length) : a.length ≤ 64 ∧ 1 ≤ a.length ∧ ∀ l ∈ a, 0 ≤ l ∧ (l / 2).toNat < (Aig.vals (false :: (inp ++ st)) g.ands).length ∧ l ≤ 9223372036854775807 := by
  unfold word at hw
  simp only [Bool.and_eq_true, decide_eq_true_eq, List.all_eq_true] at hw
  refine ⟨hw.1.2, hw.1.1, fun l hl => ?_⟩
  have h := hw.2 l hl
  have hcb := ho.fine.cnt
  unfold Aig.lit Aig.litN at h
  simp only [Bool.and_eq_true, decide_eq_true_eq] at h
  rw [vals_length]
  unfold Aig.count at h hcb
  simp only [List.length_cons, List.length_append]
  omega
set_option maxRecDepth 20000 in
set_option maxHeartbeats 8000000 in
theorem pairs_ok (g : Aig) (op : Int) (a b : List Int) (inp st : List Bool) (σ : Sig) (hs : fewG g = true → Wf g) (ha : ∀ z ∈ a, I64 z) (hb : ∀ z ∈ b, I64 z) :
    ACalls Try.prog 3 [encAig g, .int .i64 op, encW a .no, encW b .no, .slice (inp.map encBool) .no, .slice (st.map encBool) .no] σ (fun r σ' => r = .ret (.bool true) ∧ σ' = σ) := by
  have z2 := fun τ => few2 g a b τ
  cases hF : (decide (a.length ≤ 8) && decide (b.length ≤ 8) && fewG g) with
  | false =>
    rw [hF] at z2
    clear hF hs ha hb
    refine calls_x mixed Try.func3 b3 n3 rfl q3 (by simp) ?_; unfold c3 r3
    repeat' (first | simp (maxDischargeDepth := 9) -implicitDefEqProofs -dsimp only [go_sem, seval, *] | ((with_reducible refine Zt (fun oF hoF hnF hnF' => ?_)); (try simp only [upd_none, ne_eq, not_and] at hoF)) | ((with_reducible apply ACalls.one1); (focus ((first | with_reducible refine law_live _ | with_reducible refine z2 _) <;> (first | (simp (maxDischargeDepth := 9) -implicitDefEqProofs -dsimp only [go_sem, seval, *]; done) | omega))); (focus (first | trivial | with_reducible exact rfl | (simp (maxDischargeDepth := 9) -implicitDefEqProofs -dsimp only [go_sem, seval]; done)))))
    refine fin_eq ?_
    (repeat' (first | simp (maxDischargeDepth := 9) -implicitDefEqProofs -dsimp only [go_sem, seval, *])) <;> (repeat' refine And.intro ?_ ?_) <;> (first | omega | rfl | assumption | skip)
  | true =>
    rw [hF] at z2
    simp only [Bool.and_eq_true, decide_eq_true_eq] at hF
    obtain ⟨⟨la, lb⟩, hg⟩ := hF
    have hs := hs hg
    unfold fewG at hg
    simp only [Bool.and_eq_true, decide_eq_true_eq] at hg
    obtain ⟨⟨⟨g1, g2⟩, g3⟩, g4⟩ := hg
    by_cases hi : (inp.length : Int) = g.ins
    case neg =>
      have hib : ((inp.length : Int) != g.ins) = true := by simpa using hi
      clear hs ha hb la lb hi
      refine calls_x mixed Try.func3 b3 n3 rfl q3 (by simp) ?_; unfold c3 r3
      repeat' (first | simp (maxDischargeDepth := 9) -implicitDefEqProofs -dsimp only [go_sem, seval, List.length_map, *] | ((with_reducible refine Zt (fun oF hoF hnF hnF' => ?_)); (try simp only [upd_none, ne_eq, not_and] at hoF)) | ((with_reducible apply ACalls.one1); (focus ((first | with_reducible refine law_live _ | with_reducible refine z2 _) <;> (first | (simp (maxDischargeDepth := 9) -implicitDefEqProofs -dsimp only [go_sem, seval, *]; done) | omega))); (focus (first | trivial | with_reducible exact rfl | (simp (maxDischargeDepth := 9) -implicitDefEqProofs -dsimp only [go_sem, seval]; done)))))
      refine fin_eq ?_
      (repeat' (first | simp (maxDischargeDepth := 9) -implicitDefEqProofs -dsimp only [go_sem, seval, *])) <;> (repeat' refine And.intro ?_ ?_) <;> (first | omega | rfl | assumption | skip)
    by_cases ht : st.length = g.flops.length
    case neg =>
      have hib : ((inp.length : Int) != g.ins) = false := by simpa using hi
      have htb : ((st.length : Int) != (g.flops.length : Int)) = true := by rw [bne_iff_ne]; omega
      clear hs ha hb la lb hi ht
      refine calls_x mixed Try.func3 b3 n3 rfl q3 (by simp) ?_; unfold c3 r3
      repeat' (first | simp (maxDischargeDepth := 9) -implicitDefEqProofs -dsimp only [go_sem, seval, List.length_map, *] | ((with_reducible refine Zt (fun oF hoF hnF hnF' => ?_)); (try simp only [upd_none, ne_eq, not_and] at hoF)) | ((with_reducible apply ACalls.one1); (focus ((first | with_reducible refine law_live _ | with_reducible refine z2 _) <;> (first | (simp (maxDischargeDepth := 9) -implicitDefEqProofs -dsimp only [go_sem, seval, *]; done) | omega))); (focus (first | trivial | with_reducible exact rfl | (simp (maxDischargeDepth := 9) -implicitDefEqProofs -dsimp only [go_sem, seval]; done)))))
      refine fin_eq ?_
      (repeat' (first | simp (maxDischargeDepth := 9) -implicitDefEqProofs -dsimp only [go_sem, seval, *])) <;> (repeat' refine And.intro ?_ ?_) <;> (first | omega | rfl | assumption | skip)
    have hib : ((inp.length : Int) != g.ins) = false := by simpa using hi
    have htb : ((st.length : Int) != (g.flops.length : Int)) = false := by rw [bne_eq_false_iff_eq]; omega
    have z3 := fun τ => bl_Bin g op a b .no .no τ hs ha hb (by omega) (by omega)
    have hl := pair_law (g := g) (op := op) (a := a) (b := b) inp st hs
    obtain ⟨⟨h, l, e⟩, hZ⟩ : ∃ Z, Bin g op a b = Z := ⟨_, rfl⟩
    rw [hZ] at z3 hl
    simp only at z3 hl
    by_cases he : e = 0
    case neg =>
      have he' : (e != 0) = true := by simpa using he
      clear hs ha hb la lb hi ht hl hZ he
      refine calls_x mixed Try.func3 b3 n3 rfl q3 (by simp) ?_; unfold c3 r3
      repeat' (first | simp (maxDischargeDepth := 9) -implicitDefEqProofs -dsimp only [go_sem, seval, List.length_map, *] | ((with_reducible refine Zt (fun oF hoF hnF hnF' => ?_)); (try simp only [upd_none, ne_eq, not_and] at hoF)) | ((with_reducible apply ACalls.one1); (focus ((first | with_reducible refine law_live _ | with_reducible refine z2 _ | with_reducible refine z3 _) <;> (first | (simp (maxDischargeDepth := 9) -implicitDefEqProofs -dsimp only [go_sem, seval, *]; done) | omega))); (focus (first | trivial | with_reducible exact rfl | (simp (maxDischargeDepth := 9) -implicitDefEqProofs -dsimp only [go_sem, seval]; done)))))
      refine fin_eq ?_
      (repeat' (first | simp (maxDischargeDepth := 9) -implicitDefEqProofs -dsimp only [go_sem, seval, *])) <;> (repeat' refine And.intro ?_ ?_) <;> (first | omega | rfl | assumption | skip)
    subst he
    obtain ⟨k1, k2, k3, k4, k5, k6, k7, k8, k9⟩ := hl rfl la lb hi ht
    have hih : (inp.length : Int) = h.ins := by rw [k2.ins]; exact hi
    have hth : st.length = h.flops.length := by rw [k2.flops]; exact ht
    have z4 := fun τ => ref_Nodes h inp st τ k1.wf
    have hN : h.Nodes inp st = (Aig.vals (false :: (inp ++ st)) h.ands, 0) := by
      unfold Aig.Nodes
      rw [if_neg (by have := k1.chk; omega), if_neg (by omega)]
    rw [hN] at z4
    simp only at z4
    have z5 := fun τ => law_extends g h l .no τ k2 k1 (by omega) k4
    obtain ⟨wa1, wa2, wa3⟩ := word_vals (inp := inp) (st := st) k1 k5 hih hth
    obtain ⟨wb1, wb2, wb3⟩ := word_vals (inp := inp) (st := st) k1 k6 hih hth
    obtain ⟨wl1, wl2, wl3⟩ := word_vals (inp := inp) (st := st) k1 k4 hih hth
    have hnl : (Aig.vals (false :: (inp ++ st)) h.ands).length ≤ 1000000 := by
      rw [vals_length]
      simp only [List.length_cons, List.length_append]
      omega
    unfold Aig.value at k9
    obtain ⟨N, hNe⟩ : ∃ N, Aig.vals (false :: (inp ++ st)) h.ands = N := ⟨_, rfl⟩
    rw [hNe] at z4 wa3 wb3 wl3 hnl k9
    have z6 := fun τ => law_value N a .no τ hnl wa1 wa3
    have z7 := fun τ => law_value N b .no τ hnl wb1 wb3
    have z8 := fun τ => law_value N l .no τ hnl wl1 wl3
    have hta := toN_lt (a.map (Aig.val N))
    have htb2 := toN_lt (b.map (Aig.val N))
    rw [List.length_map] at hta htb2
    have z9 := fun τ => rf_Bin op a.length (toN (a.map (Aig.val N))) b.length (toN (b.map (Aig.val N))) τ ⟨by omega, by omega⟩ hta ⟨by omega, by omega⟩ htb2 (by omega)
    have hR : binR op a.length (toN (a.map (Aig.val N))) (toN (b.map (Aig.val N))) = ((l.length, toN (l.map (Aig.val N))), 0) := by
      unfold binR
      rw [if_pos (by omega)]
      exact congrArg (fun x => (x, (0 : Int))) k9.symm
    rw [hR] at z9
    simp only at z9
    obtain ⟨A1, hA1⟩ : ∃ A, toN (a.map (Aig.val N)) = A := ⟨_, rfl⟩
    obtain ⟨B1, hB1⟩ : ∃ A, toN (b.map (Aig.val N)) = A := ⟨_, rfl⟩
    obtain ⟨L1, hL1⟩ : ∃ A, toN (l.map (Aig.val N)) = A := ⟨_, rfl⟩
    rw [hA1] at z6 z9
    rw [hB1] at z7 z9
    rw [hL1] at z8 z9
    clear hs ha hb la lb hi ht hZ hl k1 k2 k3 k4 k5 k6 k7 k8 k9 hih hth hN wa1 wa2 wa3 wb1 wb2 wb3 wl1 wl2 wl3 hnl hNe hta htb2 hR hA1 hB1 hL1 g1 g2 g3 g4
    refine calls_x mixed Try.func3 b3 n3 rfl q3 (by simp) ?_; unfold c3 r3
    repeat' (first | simp (maxDischargeDepth := 9) -implicitDefEqProofs -dsimp only [go_sem, seval, List.length_map, *] | ((with_reducible refine Zt (fun oF hoF hnF hnF' => ?_)); (try simp only [upd_none, ne_eq, not_and] at hoF)) | ((with_reducible apply ACalls.one1); (focus ((first | with_reducible refine law_live _ | with_reducible refine z2 _ | with_reducible refine z3 _ | with_reducible refine z4 _ | with_reducible refine z5 _ | with_reducible refine z6 _ | with_reducible refine z7 _ | with_reducible refine z8 _ | with_reducible refine z9 _) <;> (first | (simp (maxDischargeDepth := 9) -implicitDefEqProofs -dsimp only [go_sem, seval, *]; done) | omega))); (focus (first | trivial | with_reducible exact rfl | (simp (maxDischargeDepth := 9) -implicitDefEqProofs -dsimp only [go_sem, seval]; done)))) | ((with_reducible apply id_one0); (focus (intro tS hS; ((first | with_reducible refine law_live _ | with_reducible refine z2 _ | with_reducible refine z3 _ | with_reducible refine z4 _ | with_reducible refine z5 _ | with_reducible refine z6 _ | with_reducible refine z7 _ | with_reducible refine z8 _ | with_reducible refine z9 _) <;> (first | (simp (maxDischargeDepth := 9) -implicitDefEqProofs -dsimp only [go_sem, seval, *]; done) | omega | ((with_reducible refine Sub.get hS ?_); simp (maxDischargeDepth := 9) -implicitDefEqProofs -dsimp only [go_sem, seval, *]; done))))); (focus (first | trivial | (simp (maxDischargeDepth := 9) -implicitDefEqProofs -dsimp only [go_sem, seval, *]; done)))))
    refine fin_eq ?_
    (repeat' (first | simp (maxDischargeDepth := 9) -implicitDefEqProofs -dsimp only [go_sem, seval, *])) <;> (repeat' refine And.intro ?_ ?_) <;> (first | omega | rfl | assumption | skip)
end Go.Proofs.Ytbbihmmobfmadaa

