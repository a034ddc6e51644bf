/- THE STATEMENT BddHides: for whatever arguments the call returns true, and each argument reads as it did. No condition beyond the statement's own. -/
import Derived.Test.YteabanjbgpplmaaAigArg
import Derived.Test.YteabanjbgpplmaaBddEnc
import Derived.Test.YteabanjbgpplmaaBddOps
import Derived.Test.YteabanjbgpplmaaRows
import Derived.Test.YteabanjbgpplmaaBddBddHd
import Derived.WalkKit
import Derived.ProofKit
set_option linter.unusedSimpArgs false
set_option linter.unusedVariables false
namespace Fil.Bd
open Abs Go Fil

theorem arg_fork {a : AV} (h : ShV true (.row [.int .i64, .int .i64, .int .i64]) a) : ∃ x : T3, a = encF x ∧ I64 x.1 ∧ I64 x.2.1 ∧ I64 x.2.2 := by
  obtain ⟨es, e, p, q, rfl, ⟨n, rfl, hn⟩, p', q', rfl, ⟨m, rfl, hm⟩, p2, q2, rfl, ⟨k, rfl, hk⟩, rfl⟩ := h
  simp [mkv] at e
  exact ⟨(n, m, k), e.symm, I64_of hn, I64_of hm, I64_of hk⟩

theorem arg_bdd {a : AV} (h : ShV true (.row [.int .i64, .slice true (.row [.int .i64, .int .i64, .int .i64])]) a) : ∃ b : D, a = encB b.1 b.2 ∧ b.2.length ≤ 9223372036854775807 ∧ I64 b.1 ∧ ∀ x ∈ b.2, I64 x.1 ∧ I64 x.2.1 ∧ I64 x.2.2 := by
  obtain ⟨es, e, p, q, rfl, ⟨n, rfl, hn⟩, p1, q1, rfl, h1, rfl⟩ := h
  obtain ⟨fl, rfl, hl, k1⟩ := shc_slice (f := encF) (p := fun x : T3 => I64 x.1 ∧ I64 x.2.1 ∧ I64 x.2.2) h1 fun x hx => arg_fork hx
  simp [mkv] at e
  exact ⟨(n, fl), e.symm, hl, I64_of hn, k1⟩

end Fil.Bd

namespace Go.Proofs.Yteabanjbgpplmaa
open Abs Fil
open Go.ChangeShapes Go.WideShapes Go.ChangeAt Go.RowKit
namespace bddHides
theorem own : ownKnob Try.prog.godebug = none := by kernel_rfl
theorem laidOut : laidOutB Try.prog = true := by kernel_rfl
theorem shapes : argSh Try.prog 12 Try.f12.params.toList = some [(true, .row [.int .i64, .slice true (.row [.int .i64, .int .i64, .int .i64])]), (false, .int .i64), (false, .int .i64), (false, .slice false (.bool))] := by kernel_rfl

theorem ok : ∀ xs, ArgsAre Try.prog 12 Try.f12.params.toList xs → ACalls Try.prog 12 xs (fun _ => none) (fun r _ => r = .ret (.bool true)) := by
  intro xs hx
  have h := args_sh shapes hx
  obtain ⟨a0, r, rfl, h0, a1, r1, rfl, h1, a2, r2, rfl, h2, a3, r3, rfl, h3, rfl⟩ := h
  obtain ⟨b, rfl, hl, _⟩ := Bd.arg_bdd h0
  obtain ⟨f, rfl, _⟩ := arg_int h1
  obtain ⟨v, rfl, _⟩ := arg_int h2
  obtain ⟨inp, rfl, hi⟩ := arg_bools h3
  exact (hides_law b f v inp _ hl hi).mono fun r s h => h.1

theorem lifted (os : Os) (started : os.Started) (H : Type) (enc : TypeId × Value → H) :
    ReturnsInHanded {} Try.checked os 12 .any (Rows.bddHidesSpec.pre6 enc Try.prog Try.f12 Rows.bddHidesRow.domain false) (Rows.bddHidesSpec.post enc Try.prog Try.f12 false true false false) := by
  refine returnsInHanded_of_change (C := Try.checked) own started (by kernel_rfl) Try.func12
    (ChangeSpec.witness6 (enc := enc) (C := Try.checked) false ⟨#[], #[.agg #[.int .i64 0, .slice none 0 0], .int .i64 0, .int .i64 0, .slice none 0 0], []⟩ 8 (by kernel_rfl) (by kernel_rfl) (by kernel_rfl) (by kernel_rfl)) ?_
  intro W base args ds gs before hval0 hW hcnd _
  refine post_true (P := Try.prog) (g := 12) laidOut (by kernel_rfl) rfl (fun ds h => ?_) (by kernel_rfl) (tb := 4) Try.underlying4 hval0 hW ok
  match ds, h with
  | [_, _, _, _], _ => rfl
end bddHides

theorem bddHides_holds : Rows.BddHidesSaid :=
  OpenClaim.holds_of_wide 12 Try.f12 rfl rfl rfl rfl rfl rfl rfl ⟨rfl, rfl, rfl, rfl, rfl⟩ rfl rfl rfl rfl rfl (by kernel_rfl) Try.func12 (by kernel_rfl)
    (of_decide_eq_true (by kernel_rfl)) (by unfold Func.isWrapper; first | (rw [if_pos (by decide +kernel)]; kernel_rfl) | (rw [if_neg (by decide +kernel)]; exact ⟨rfl, rfl⟩))
    (fun os started H enc _ => bddHides.lifted os started H enc)
end Go.Proofs.Yteabanjbgpplmaa

