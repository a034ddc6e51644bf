/- THE STATEMENT BddMakes: for whatever arguments the call returns true, and each argument reads as it did. No condition beyond the statement's own. -/
import Derived.Test.YteabanjbgpplmaaAigModel
import Derived.Test.YteabanjbgpplmaaAbsU
import Derived.Test.YteabanjbgpplmaaBddEnc
import Derived.Test.YteabanjbgpplmaaBddOps
import Derived.Test.YteabanjbgpplmaaRows
import Derived.Test.YteabanjbgpplmaaBddBddMk
import Derived.WalkKit
import Derived.ProofKit
set_option linter.unusedSimpArgs false
set_option linter.unusedVariables false
namespace Fil
open Abs Go

theorem i64_min : IntKind.i64.min = -9223372036854775808 := by decide
theorem i64_max : IntKind.i64.max = 9223372036854775807 := by decide
theorem I64_of {n : Int} (h : IntKind.i64.min ≤ n ∧ n ≤ IntKind.i64.max) : I64 n := by rw [i64_min, i64_max] at h; exact h

theorem arg_int {a : AV} (h : ShV false (.int .i64) a) : ∃ n, a = encInt n ∧ I64 n := by
  obtain ⟨n, e, hn⟩ := shv_int h
  exact ⟨n, e, I64_of hn⟩
theorem arg_bool {a : AV} (h : ShV false .bool a) : ∃ b, a = encBool b ∧ True := by
  obtain ⟨b, e⟩ := shv_bool h
  exact ⟨b, e, trivial⟩
theorem arg_bools {a : AV} (h : ShV false (.slice false .bool) a) : ∃ l : List Bool, a = .slice (l.map encBool) .no ∧ l.length ≤ maxLen := by
  obtain ⟨m, e, h1, _⟩ := shv_slice (f := encBool) (p := fun _ => True) h fun x hx => arg_bool hx
  exact ⟨m, e, h1⟩
theorem arg_rows {a : AV} (h : ShV false (.slice false (.slice false .bool)) a) : ∃ l : List (List Bool), a = .slice (l.map (encRow encBool)) .no ∧ l.length ≤ maxLen ∧ ∀ x ∈ l, x.length ≤ maxLen := by
  obtain ⟨m, e, h1, h2⟩ := shv_slice (f := encRow encBool) (p := fun l : List Bool => l.length ≤ maxLen) h fun x hx => by
    obtain ⟨l, e, hl⟩ := arg_bools hx
    exact ⟨l, e, hl⟩
  exact ⟨m, e, h1, h2⟩
theorem arg_gate {a : AV} (h : ShV true (.row [.int .i64, .int .i64]) a) : ∃ x : Int × Int, a = encGate x ∧ I64 x.1 ∧ I64 x.2 := by
  obtain ⟨es, e, p, q, rfl, ⟨n, rfl, hn⟩, p', q', rfl, ⟨m, rfl, hm⟩, rfl⟩ := h
  simp [mkv] at e
  exact ⟨(n, m), e.symm, I64_of hn, I64_of hm⟩
theorem arg_flop {a : AV} (h : ShV true (.row [.int .i64, .bool]) a) : ∃ x : Flop, a = encFlop x ∧ I64 x.next := by
  obtain ⟨es, e, p, q, rfl, ⟨n, rfl, hn⟩, p', q', rfl, ⟨m, rfl⟩, rfl⟩ := h
  simp [mkv] at e
  exact ⟨⟨n, m⟩, e.symm, I64_of hn⟩

/-- Gates whose numbers are of 64 bits. -/
structure Wide (g : Aig) : Prop where
  ins : I64 g.ins
  nexts : ∀ f ∈ g.flops, I64 f.next
  gates : ∀ x ∈ g.ands, I64 x.1 ∧ I64 x.2
  lits : ∀ a ∈ g.outs, I64 a

theorem arg_aig {a : AV} (h : ShV true (.row [.int .i64, .slice true (.row [.int .i64, .bool]), .slice true (.row [.int .i64, .int .i64]), .slice false (.int .i64)]) a) : ∃ g : Aig, a = encAig g ∧ Wide g := by
  obtain ⟨es, e, p, q, rfl, ⟨n, rfl, hn⟩, p1, q1, rfl, h1, p2, q2, rfl, h2, p3, q3, rfl, h3, rfl⟩ := h
  obtain ⟨fl, rfl, _, k1⟩ := shc_slice (f := encFlop) (p := fun x : Flop => I64 x.next) h1 fun x hx => arg_flop hx
  obtain ⟨an, rfl, _, k2⟩ := shc_slice (f := encGate) (p := fun x : Int × Int => I64 x.1 ∧ I64 x.2) h2 fun x hx => arg_gate hx
  obtain ⟨ou, rfl, _, k3⟩ := shc_slice (f := encInt) (p := I64) h3 fun x hx => arg_int hx
  simp [mkv] at e
  exact ⟨⟨n, fl, an, ou⟩, e.symm, I64_of hn, k1, k2, k3⟩

/-- Are they few? -/
def Few (g : Aig) : Prop := g.ins ≤ 200 ∧ g.flops.length ≤ 200 ∧ g.ands.length ≤ 1000 ∧ g.outs.length ≤ 200
theorem few_wf {g : Aig} (h : Wide g) (hf : Few g) : Wf g :=
  ⟨h.ins, by have := hf.2.1; omega, by have := hf.2.2.1; omega, by have := hf.2.2.2; omega, h.nexts, h.gates, h.lits⟩
end Fil

namespace Fil.Bd
open Abs Go Fil

theorem arg_fork {a : AV} (h : ShV true (.row [.int .i64, .int .i64, .int .i64]) a) : ∃ x : T3, a = encF x ∧ I64 x.1 ∧ I64 x.2.1 ∧ I64 x.2.2 := by
  obtain ⟨es, e, p, q, rfl, ⟨n, rfl, hn⟩, p', q', rfl, ⟨m, rfl, hm⟩, p2, q2, rfl, ⟨k, rfl, hk⟩, rfl⟩ := h
  simp [mkv] at e
  exact ⟨(n, m, k), e.symm, I64_of hn, I64_of hm, I64_of hk⟩

theorem arg_bdd {a : AV} (h : ShV true (.row [.int .i64, .slice true (.row [.int .i64, .int .i64, .int .i64])]) a) : ∃ b : D, a = encB b.1 b.2 ∧ b.2.length ≤ 9223372036854775807 ∧ I64 b.1 ∧ ∀ x ∈ b.2, I64 x.1 ∧ I64 x.2.1 ∧ I64 x.2.2 := by
  obtain ⟨es, e, p, q, rfl, ⟨n, rfl, hn⟩, p1, q1, rfl, h1, rfl⟩ := h
  obtain ⟨fl, rfl, hl, k1⟩ := shc_slice (f := encF) (p := fun x : T3 => I64 x.1 ∧ I64 x.2.1 ∧ I64 x.2.2) h1 fun x hx => arg_fork hx
  simp [mkv] at e
  exact ⟨(n, fl), e.symm, hl, I64_of hn, k1⟩

end Fil.Bd

namespace Go.Proofs.Yteabanjbgpplmaa
open Abs Fil
open Go.ChangeShapes Go.WideShapes Go.ChangeAt Go.RowKit
namespace bddMakes
theorem own : ownKnob Try.prog.godebug = none := by kernel_rfl
theorem laidOut : laidOutB Try.prog = true := by kernel_rfl
theorem shapes : argSh Try.prog 12 Try.f4.params.toList = some [(true, .row [.int .i64, .slice true (.row [.int .i64, .int .i64, .int .i64])]), (false, .int .i64), (false, .int .i64), (false, .int .i64)] := by kernel_rfl

theorem ok : ∀ xs, ArgsAre Try.prog 12 Try.f4.params.toList xs → ACalls Try.prog 4 xs (fun _ => none) (fun r _ => r = .ret (.bool true)) := by
  intro xs hx
  have h := args_sh shapes hx
  obtain ⟨a0, r, rfl, h0, a1, r1, rfl, h1, a2, r2, rfl, h2, a3, r3, rfl, h3, rfl⟩ := h
  obtain ⟨b, rfl, hl, _⟩ := Bd.arg_bdd h0
  obtain ⟨f, rfl, _⟩ := arg_int h1
  obtain ⟨g, rfl, _⟩ := arg_int h2
  obtain ⟨k, rfl, _⟩ := arg_int h3
  exact (makes_law b f g k _ hl).mono fun r s h => h.1

theorem lifted (os : Os) (started : os.Started) (H : Type) (enc : TypeId × Value → H) :
    ReturnsInHanded {} Try.checked os 4 .any (Rows.bddMakesSpec.pre6 enc Try.prog Try.f4 Rows.bddMakesRow.domain false) (Rows.bddMakesSpec.post enc Try.prog Try.f4 false true false false) := by
  refine returnsInHanded_of_change (C := Try.checked) own started (by kernel_rfl) Try.func4
    (ChangeSpec.witness6 (enc := enc) (C := Try.checked) false ⟨#[], #[.agg #[.int .i64 0, .slice none 0 0], .int .i64 0, .int .i64 0, .int .i64 0], []⟩ 8 (by kernel_rfl) (by kernel_rfl) (by kernel_rfl) (by kernel_rfl)) ?_
  intro W base args ds gs before hval0 hW hcnd _
  refine post_true (P := Try.prog) (g := 12) laidOut (by kernel_rfl) rfl (fun ds h => ?_) (by kernel_rfl) (tb := 4) Try.underlying4 hval0 hW ok
  match ds, h with
  | [_, _, _, _], _ => rfl
end bddMakes

theorem bddMakes_holds : Rows.BddMakesSaid :=
  OpenClaim.holds_of_wide 4 Try.f4 rfl rfl rfl rfl rfl rfl rfl ⟨rfl, rfl, rfl, rfl, rfl⟩ rfl rfl rfl rfl rfl (by kernel_rfl) Try.func4 (by kernel_rfl)
    (of_decide_eq_true (by kernel_rfl)) (by unfold Func.isWrapper; first | (rw [if_pos (by decide +kernel)]; kernel_rfl) | (rw [if_neg (by decide +kernel)]; exact ⟨rfl, rfl⟩))
    (fun os started H enc _ => bddMakes.lifted os started H enc)
end Go.Proofs.Yteabanjbgpplmaa

