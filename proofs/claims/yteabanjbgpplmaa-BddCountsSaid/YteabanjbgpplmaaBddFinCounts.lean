/- THE STATEMENT BddCounts: for whatever arguments the call returns true, and each argument reads as it did. No condition beyond the statement's own. -/
import Derived.Test.YteabanjbgpplmaaRows
import Derived.Test.YteabanjbgpplmaaBddBddT
import Derived.Test.YteabanjbgpplmaaBddArg
import Derived.Test.YteabanjbgpplmaaAigArg
import Derived.WalkKit
import Derived.ProofKit
namespace Go.Proofs.Yteabanjbgpplmaa
open Abs Fil
open Go.ChangeShapes Go.WideShapes Go.ChangeAt Go.RowKit
namespace bddCounts
theorem own : ownKnob Try.prog.godebug = none := by kernel_rfl
theorem laidOut : laidOutB Try.prog = true := by kernel_rfl
theorem shapes : argSh Try.prog 12 Try.f10.params.toList = some [(true, .row [.int .i64, .slice true (.row [.int .i64, .int .i64, .int .i64])]), (false, .int .i64)] := by kernel_rfl

theorem ok : ∀ xs, ArgsAre Try.prog 12 Try.f10.params.toList xs → ACalls Try.prog 10 xs (fun _ => none) (fun r _ => r = .ret (.bool true)) := by
  intro xs hx
  have h := args_sh shapes hx
  obtain ⟨a0, r, rfl, h0, a1, r1, rfl, h1, rfl⟩ := h
  obtain ⟨b, rfl, hl, _⟩ := Bd.arg_bdd h0
  obtain ⟨f, rfl, _⟩ := arg_int h1
  exact (counts_law b f _ hl).mono fun r s h => h.1

theorem lifted (os : Os) (started : os.Started) (H : Type) (enc : TypeId × Value → H) :
    ReturnsInHanded {} Try.checked os 10 .any (Rows.bddCountsSpec.pre6 enc Try.prog Try.f10 Rows.bddCountsRow.domain false) (Rows.bddCountsSpec.post enc Try.prog Try.f10 false true false false) := by
  refine returnsInHanded_of_change (C := Try.checked) own started (by kernel_rfl) Try.func10
    (ChangeSpec.witness6 (enc := enc) (C := Try.checked) false ⟨#[], #[.agg #[.int .i64 0, .slice none 0 0], .int .i64 0], []⟩ 8 (by kernel_rfl) (by kernel_rfl) (by kernel_rfl) (by kernel_rfl)) ?_
  intro W base args ds gs before hval0 hW hcnd _
  refine post_true (P := Try.prog) (g := 12) laidOut (by kernel_rfl) rfl (fun ds h => ?_) (by kernel_rfl) (tb := 4) Try.underlying4 hval0 hW ok
  match ds, h with
  | [_, _], _ => rfl
end bddCounts

theorem bddCounts_holds : Rows.BddCountsSaid :=
  OpenClaim.holds_of_wide 10 Try.f10 rfl rfl rfl rfl rfl rfl rfl ⟨rfl, rfl, rfl, rfl, rfl⟩ rfl rfl rfl rfl rfl (by kernel_rfl) Try.func10 (by kernel_rfl)
    (of_decide_eq_true (by kernel_rfl)) (by unfold Func.isWrapper; first | (rw [if_pos (by decide +kernel)]; kernel_rfl) | (rw [if_neg (by decide +kernel)]; exact ⟨rfl, rfl⟩))
    (fun os started H enc _ => bddCounts.lifted os started H enc)
end Go.Proofs.Yteabanjbgpplmaa
