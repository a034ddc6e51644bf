/- THE STATEMENT SizedNumber: for whatever arguments the call returns true, and each argument reads as_ it did. No condition beyond the statement's own. -/
import Derived.Test.YtdiebjnjhgbklaaRows
import Derived.WalkKit
import Derived.ProofKit
import Derived.Test.YtdiebjnjhgbklaaLSizSizW
set_option linter.unusedSimpArgs false
set_option linter.unusedVariables false
namespace Go.Proofs.Ytdiebjnjhgbklaa
open Abs Fil
open Go.ChangeShapes Go.WideShapes Go.ChangeAt Go.RowKit
namespace sizedNumber
theorem own : ownKnob Try.prog.godebug = none := by kernel_rfl
theorem laidOut : laidOutB Try.prog = true := by kernel_rfl
theorem shapes : argSh Try.prog 12 Try.f8.params.toList = some [(false, .int .u64), (false, .int .i64), (false, .int .i64)] := by kernel_rfl
theorem ok : ∀ xs, ArgsAre Try.prog 12 Try.f8.params.toList xs → ACalls Try.prog 8 xs (fun _ => none) (fun r _ => r = .ret (.bool true)) := by
  intro xs hx
  have h := args_sh shapes hx
  obtain ⟨a0, r, rfl, h0, h⟩ := h
  obtain ⟨a1, r, rfl, h1, h⟩ := h
  obtain ⟨a2, r, rfl, h2, rfl⟩ := h
  obtain ⟨v, rfl, hv⟩ := shv_int h0
  obtain ⟨w, rfl, _⟩ := shv_int h1
  obtain ⟨k, rfl, _⟩ := shv_int h2
  exact (lw_SizedNumber v w k _ (Fil.Sz.U64_of hv)).mono fun r s h => h.1
set_option maxRecDepth 20000 in
theorem lifted (os : Os) (started : os.Started) (H : Type) (enc : TypeId × Value → H) :
    ReturnsInHanded {} Try.checked os 8 .any (Rows.sizedNumberSpec.pre6 enc Try.prog Try.f8 Rows.sizedNumberRow.domain false) (Rows.sizedNumberSpec.post enc Try.prog Try.f8 false true false false) := by
  refine returnsInHanded_of_change (C := Try.checked) own started (by kernel_rfl) Try.func8
    (ChangeSpec.witness6 (enc := enc) (C := Try.checked) false ⟨#[], #[.int .u64 0, .int .i64 0, .int .i64 0], []⟩ 8 (by kernel_rfl) (by kernel_rfl) (by kernel_rfl) (by kernel_rfl)) ?_
  intro W base args ds gs before hval0 hW hcnd _
  refine post_true (P := Try.prog) (g := 12) laidOut (by kernel_rfl) rfl (fun ds h => ?_) (by kernel_rfl) (tb := 4) Try.underlying4 hval0 hW ok
  match ds, h with
  | [_, _, _], _ => rfl
end sizedNumber
theorem sizedNumber_holds : Rows.SizedNumberSaid :=
  OpenClaim.holds_of_wide 8 Try.f8 rfl rfl rfl rfl rfl rfl rfl ⟨rfl, rfl, rfl, rfl, rfl⟩ rfl rfl rfl rfl rfl (by kernel_rfl) Try.func8 (by kernel_rfl)
    (of_decide_eq_true (by kernel_rfl)) (by unfold Func.isWrapper; first | (rw [if_pos (by decide +kernel)]; kernel_rfl) | (rw [if_neg (by decide +kernel)]; exact ⟨rfl, rfl⟩))
    (fun os started H enc _ => sizedNumber.lifted os started H enc)
end Go.Proofs.Ytdiebjnjhgbklaa

