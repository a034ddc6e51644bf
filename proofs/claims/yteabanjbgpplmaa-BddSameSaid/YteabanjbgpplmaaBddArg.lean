/- bdd: diagrams as a statement's argument. -/
import Derived.Test.YteabanjbgpplmaaAigArg
import Derived.Test.YteabanjbgpplmaaBddEnc
import Derived.Test.YteabanjbgpplmaaBddOps
set_option linter.unusedSimpArgs false
set_option linter.unusedVariables false
namespace Fil.Bd
open Abs Go Fil

theorem arg_fork {a : AV} (h : ShV true (.row [.int .i64, .int .i64, .int .i64]) a) : ∃ x : T3, a = encF x ∧ I64 x.1 ∧ I64 x.2.1 ∧ I64 x.2.2 := by
  obtain ⟨es, e, p, q, rfl, ⟨n, rfl, hn⟩, p', q', rfl, ⟨m, rfl, hm⟩, p2, q2, rfl, ⟨k, rfl, hk⟩, rfl⟩ := h
  simp [mkv] at e
  exact ⟨(n, m, k), e.symm, I64_of hn, I64_of hm, I64_of hk⟩

theorem arg_bdd {a : AV} (h : ShV true (.row [.int .i64, .slice true (.row [.int .i64, .int .i64, .int .i64])]) a) : ∃ b : D, a = encB b.1 b.2 ∧ b.2.length ≤ 9223372036854775807 ∧ I64 b.1 ∧ ∀ x ∈ b.2, I64 x.1 ∧ I64 x.2.1 ∧ I64 x.2.2 := by
  obtain ⟨es, e, p, q, rfl, ⟨n, rfl, hn⟩, p1, q1, rfl, h1, rfl⟩ := h
  obtain ⟨fl, rfl, hl, k1⟩ := shc_slice (f := encF) (p := fun x : T3 => I64 x.1 ∧ I64 x.2.1 ∧ I64 x.2.2) h1 fun x hx => arg_fork hx
  simp [mkv] at e
  exact ⟨(n, fl), e.symm, hl, I64_of hn, k1⟩

end Fil.Bd
